/- The law of chapter 8: what is known, what is short: the walks. -/
import Derived.Test.YtbkhdjbhijmghaaPtF
namespace Go.Proofs.Ytbkhdjbhijmghaa
open Go.RowKit

theorem good_at (k r : Int) (f : Bool) (M S m s : Int) (t : Bool) (T : Int) (b : Bool) (hb : goodPt k [] r f M S m s t T = b) (i1 : I64 M) (j1 : I64 S) (i2 : I64 m) (j2 : I64 s) (w : World) :
    Calls Try.prog 10 #[.int .i64 k, .agg #[.slice none 0 0, .int .i64 r, .bool f, .int .i64 M, .int .i64 S, .int .i64 m, .int .i64 s, .bool t, .int .i64 T]] w fun e w' => e = .returned (.bool b) ∧ Ext w w' := by
  have := ptGood_any k none 0 [] r f M S m s t T w (by simp) (LabA.nil _ _) (by intro x hx; cases hx) i1 j1 i2 j2
  rw [hb] at this
  exact this
theorem roles_len (k : Int) (w : World) :
    Calls Try.prog 9 #[.int .i64 k] w fun e w' => (∃ a c, e = .returned (.slice a (rolesOf k).length c) ∧ IntsV (.slice a (rolesOf k).length c) (rolesOf k) w') ∧ Ext w w' := by
  refine (Roles_any _ k w rfl).mono ?_
  rintro e w' ⟨⟨v, rfl, h⟩, x⟩
  refine ⟨?_, x⟩
  have h' := h
  rcases h with ⟨h1, rfl⟩ | ⟨b, rfl, h2⟩
  · exact ⟨none, 0, by rw [h1]; rfl, by rw [h1] at h' ⊢; exact h'⟩
  · exact ⟨_, _, rfl, h'⟩

set_option maxHeartbeats 8000000 in
set_option maxRecDepth 100000 in
theorem known_any (w : World) :
    Calls Try.prog 5 #[] w fun e w' => e = .returned (.bool true) ∧ Ext w w' := by
  have i0 : ∀ m : Int, -1000 ≤ m ∧ m ≤ 1000 → I64 m := fun m h => ⟨by omega, by omega⟩
  have G1 := good_at 1 0 false 0 0 5 0 false 0 true (by decide +kernel) (i0 _ (by omega)) (i0 _ (by omega)) (i0 _ (by omega)) (i0 _ (by omega))
  have G2 := good_at 3 0 false 0 0 5 0 false 0 false (by decide +kernel) (i0 _ (by omega)) (i0 _ (by omega)) (i0 _ (by omega)) (i0 _ (by omega))
  have G3 := good_at 3 1 true 0 0 3 0 false 0 true (by decide +kernel) (i0 _ (by omega)) (i0 _ (by omega)) (i0 _ (by omega)) (i0 _ (by omega))
  have G4 := good_at 4 2 false 5 1 (-3) 0 false 0 true (by decide +kernel) (i0 _ (by omega)) (i0 _ (by omega)) (i0 _ (by omega)) (i0 _ (by omega))
  have G5 := good_at 2 0 false 0 0 (-1) 0 false 0 false (by decide +kernel) (i0 _ (by omega)) (i0 _ (by omega)) (i0 _ (by omega)) (i0 _ (by omega))
  have C1 : ∀ w, Calls Try.prog 7 #[.agg #[.slice none 0 0, .int .i64 0, .bool false, .int .i64 0, .int .i64 0, .int .i64 5, .int .i64 0, .bool false, .int .i64 0], .agg #[.slice none 0 0, .int .i64 1, .bool true, .int .i64 0, .int .i64 0, .int .i64 3, .int .i64 0, .bool false, .int .i64 0]] w fun e w' => e = .returned (.int .i64 (-1)) ∧ Ext w w' := fun w => by
    have := ptCompare_any none none 0 0 [] [] 0 false 0 0 5 0 false 0 1 true 0 0 3 0 false 0 w (by simp) (by simp) (LabA.nil _ _) (LabA.nil _ _) (i0 _ (by omega)) (i0 _ (by omega)) (i0 _ (by omega)) (i0 _ (by omega))
    rw [show cmpP [] 0 false 0 0 false 0 [] 1 true 0 0 false 0 = -1 from by decide +kernel] at this
    exact this
  have C2 : ∀ w, Calls Try.prog 8 #[.agg #[.slice none 0 0, .int .i64 2, .bool false, .int .i64 5, .int .i64 1, .int .i64 (-3), .int .i64 0, .bool false, .int .i64 0], .agg #[.slice none 0 0, .int .i64 2, .bool false, .int .i64 5, .int .i64 1, .int .i64 (-3), .int .i64 0, .bool false, .int .i64 0]] w fun e w' => e = .returned (.bool true) ∧ Ext w w' := fun w => by
    have := ptSame_any none none 0 0 [] [] 2 false 5 1 (-3) 0 false 0 2 false 5 1 (-3) 0 false 0 w (by simp) (by simp) (LabA.nil _ _) (LabA.nil _ _) (i0 _ (by omega)) (i0 _ (by omega)) (i0 _ (by omega)) (i0 _ (by omega))
    rw [show (cmpP [] 2 false 5 1 false 0 [] 2 false 5 1 false 0 == 0 && (((-3) : Int) == (-3) && (0 : Int) == 0)) = true from by decide +kernel] at this
    exact this
  have R1 := fun w => roles_len 4 w
  have R2 := fun w => roles_len 9 w
  rw [show (rolesOf 4).length = 3 from by decide] at R1
  rw [show (rolesOf 9).length = 0 from by decide] at R2
  generalize rolesOf 4 = L4 at *
  generalize rolesOf 9 = L9 at *
  have hx : Ext w (((w.alloc (.cells #[.slice none 0 0, .int .i64 0, .bool false, .int .i64 0, .int .i64 0, .int .i64 5, .int .i64 0, .bool false, .int .i64 0] 26)).alloc (.cells #[.slice none 0 0, .int .i64 1, .bool true, .int .i64 0, .int .i64 0, .int .i64 3, .int .i64 0, .bool false, .int .i64 0] 26)).alloc (.cells #[.slice none 0 0, .int .i64 2, .bool false, .int .i64 5, .int .i64 1, .int .i64 (-3), .int .i64 0, .bool false, .int .i64 0] 26)) := (((Ext.refl _).alloc _).alloc _).alloc _
  have g1 : PtIn w.heap.size (.slice none 0 0) 0 false 0 0 5 0 false 0 (((w.alloc (.cells #[.slice none 0 0, .int .i64 0, .bool false, .int .i64 0, .int .i64 0, .int .i64 5, .int .i64 0, .bool false, .int .i64 0] 26)).alloc (.cells #[.slice none 0 0, .int .i64 1, .bool true, .int .i64 0, .int .i64 0, .int .i64 3, .int .i64 0, .bool false, .int .i64 0] 26)).alloc (.cells #[.slice none 0 0, .int .i64 2, .bool false, .int .i64 5, .int .i64 1, .int .i64 (-3), .int .i64 0, .bool false, .int .i64 0] 26)) := heap_at3a _ _ _ _
  have g2 : PtIn (w.heap.size + 1) (.slice none 0 0) 1 true 0 0 3 0 false 0 (((w.alloc (.cells #[.slice none 0 0, .int .i64 0, .bool false, .int .i64 0, .int .i64 0, .int .i64 5, .int .i64 0, .bool false, .int .i64 0] 26)).alloc (.cells #[.slice none 0 0, .int .i64 1, .bool true, .int .i64 0, .int .i64 0, .int .i64 3, .int .i64 0, .bool false, .int .i64 0] 26)).alloc (.cells #[.slice none 0 0, .int .i64 2, .bool false, .int .i64 5, .int .i64 1, .int .i64 (-3), .int .i64 0, .bool false, .int .i64 0] 26)) := heap_at3b _ _ _ _
  have g3 : PtIn (w.heap.size + 2) (.slice none 0 0) 2 false 5 1 (-3) 0 false 0 (((w.alloc (.cells #[.slice none 0 0, .int .i64 0, .bool false, .int .i64 0, .int .i64 0, .int .i64 5, .int .i64 0, .bool false, .int .i64 0] 26)).alloc (.cells #[.slice none 0 0, .int .i64 1, .bool true, .int .i64 0, .int .i64 0, .int .i64 3, .int .i64 0, .bool false, .int .i64 0] 26)).alloc (.cells #[.slice none 0 0, .int .i64 2, .bool false, .int .i64 5, .int .i64 1, .int .i64 (-3), .int .i64 0, .bool false, .int .i64 0] 26)) := heap_at3c _ _ _ _
  go_enter Try.func5, Try.ntmps5
  go_wp2_with fail
  generalize ((w.alloc (.cells #[.slice none 0 0, .int .i64 0, .bool false, .int .i64 0, .int .i64 0, .int .i64 5, .int .i64 0, .bool false, .int .i64 0] 26)).alloc (.cells #[.slice none 0 0, .int .i64 1, .bool true, .int .i64 0, .int .i64 0, .int .i64 3, .int .i64 0, .bool false, .int .i64 0] 26)).alloc (.cells #[.slice none 0 0, .int .i64 2, .bool false, .int .i64 5, .int .i64 1, .int .i64 (-3), .int .i64 0, .bool false, .int .i64 0] 26) = W at *
  (with_reducible refine (G1 _).mono ?_)
  rintro e w0 ⟨rfl, x9⟩
  replace g1 := g1.ext x9
  replace g2 := g2.ext x9
  replace g3 := g3.ext x9
  replace hx := hx.trans x9
  clear x9
  obtain ⟨k0, k1, k2, k3, k4, k5, k6, k7, k8⟩ := g1.cells
  obtain ⟨p0, p1, p2, p3, p4, p5, p6, p7, p8⟩ := g2.cells
  obtain ⟨q0, q1, q2, q3, q4, q5, q6, q7, q8⟩ := g3.cells
  go_wp2_with fail
  clear k0 k1 k2 k3 k4 k5 k6 k7 k8 p0 p1 p2 p3 p4 p5 p6 p7 p8 q0 q1 q2 q3 q4 q5 q6 q7 q8
  (with_reducible refine (G2 _).mono ?_)
  rintro e w1 ⟨rfl, x9⟩
  replace g1 := g1.ext x9
  replace g2 := g2.ext x9
  replace g3 := g3.ext x9
  replace hx := hx.trans x9
  clear x9
  obtain ⟨k0, k1, k2, k3, k4, k5, k6, k7, k8⟩ := g1.cells
  obtain ⟨p0, p1, p2, p3, p4, p5, p6, p7, p8⟩ := g2.cells
  obtain ⟨q0, q1, q2, q3, q4, q5, q6, q7, q8⟩ := g3.cells
  go_wp2_with fail
  clear k0 k1 k2 k3 k4 k5 k6 k7 k8 p0 p1 p2 p3 p4 p5 p6 p7 p8 q0 q1 q2 q3 q4 q5 q6 q7 q8
  (with_reducible refine (G3 _).mono ?_)
  rintro e w2 ⟨rfl, x9⟩
  replace g1 := g1.ext x9
  replace g2 := g2.ext x9
  replace g3 := g3.ext x9
  replace hx := hx.trans x9
  clear x9
  obtain ⟨k0, k1, k2, k3, k4, k5, k6, k7, k8⟩ := g1.cells
  obtain ⟨p0, p1, p2, p3, p4, p5, p6, p7, p8⟩ := g2.cells
  obtain ⟨q0, q1, q2, q3, q4, q5, q6, q7, q8⟩ := g3.cells
  go_wp2_with fail
  clear k0 k1 k2 k3 k4 k5 k6 k7 k8 p0 p1 p2 p3 p4 p5 p6 p7 p8 q0 q1 q2 q3 q4 q5 q6 q7 q8
  (with_reducible refine (G4 _).mono ?_)
  rintro e w3 ⟨rfl, x9⟩
  replace g1 := g1.ext x9
  replace g2 := g2.ext x9
  replace g3 := g3.ext x9
  replace hx := hx.trans x9
  clear x9
  obtain ⟨k0, k1, k2, k3, k4, k5, k6, k7, k8⟩ := g1.cells
  obtain ⟨p0, p1, p2, p3, p4, p5, p6, p7, p8⟩ := g2.cells
  obtain ⟨q0, q1, q2, q3, q4, q5, q6, q7, q8⟩ := g3.cells
  go_wp2_with fail
  clear k0 k1 k2 k3 k4 k5 k6 k7 k8 p0 p1 p2 p3 p4 p5 p6 p7 p8 q0 q1 q2 q3 q4 q5 q6 q7 q8
  (with_reducible refine (G5 _).mono ?_)
  rintro e w4 ⟨rfl, x9⟩
  replace g1 := g1.ext x9
  replace g2 := g2.ext x9
  replace g3 := g3.ext x9
  replace hx := hx.trans x9
  clear x9
  obtain ⟨k0, k1, k2, k3, k4, k5, k6, k7, k8⟩ := g1.cells
  obtain ⟨p0, p1, p2, p3, p4, p5, p6, p7, p8⟩ := g2.cells
  obtain ⟨q0, q1, q2, q3, q4, q5, q6, q7, q8⟩ := g3.cells
  go_wp2_with fail
  clear k0 k1 k2 k3 k4 k5 k6 k7 k8 p0 p1 p2 p3 p4 p5 p6 p7 p8 q0 q1 q2 q3 q4 q5 q6 q7 q8
  (with_reducible refine (C1 _).mono ?_)
  rintro e w5 ⟨rfl, x9⟩
  replace g1 := g1.ext x9
  replace g2 := g2.ext x9
  replace g3 := g3.ext x9
  replace hx := hx.trans x9
  clear x9
  obtain ⟨k0, k1, k2, k3, k4, k5, k6, k7, k8⟩ := g1.cells
  obtain ⟨p0, p1, p2, p3, p4, p5, p6, p7, p8⟩ := g2.cells
  obtain ⟨q0, q1, q2, q3, q4, q5, q6, q7, q8⟩ := g3.cells
  go_wp2_with fail
  clear k0 k1 k2 k3 k4 k5 k6 k7 k8 p0 p1 p2 p3 p4 p5 p6 p7 p8 q0 q1 q2 q3 q4 q5 q6 q7 q8
  (with_reducible refine (C2 _).mono ?_)
  rintro e w6 ⟨rfl, x9⟩
  replace g1 := g1.ext x9
  replace g2 := g2.ext x9
  replace g3 := g3.ext x9
  replace hx := hx.trans x9
  clear x9
  obtain ⟨k0, k1, k2, k3, k4, k5, k6, k7, k8⟩ := g1.cells
  obtain ⟨p0, p1, p2, p3, p4, p5, p6, p7, p8⟩ := g2.cells
  obtain ⟨q0, q1, q2, q3, q4, q5, q6, q7, q8⟩ := g3.cells
  go_wp2_with fail
  clear k0 k1 k2 k3 k4 k5 k6 k7 k8 p0 p1 p2 p3 p4 p5 p6 p7 p8 q0 q1 q2 q3 q4 q5 q6 q7 q8
  (with_reducible refine (R1 _).mono ?_)
  rintro e w7 ⟨⟨a9, c9, rfl, -⟩, x9⟩
  replace g1 := g1.ext x9
  replace g2 := g2.ext x9
  replace g3 := g3.ext x9
  replace hx := hx.trans x9
  clear x9
  obtain ⟨k0, k1, k2, k3, k4, k5, k6, k7, k8⟩ := g1.cells
  obtain ⟨p0, p1, p2, p3, p4, p5, p6, p7, p8⟩ := g2.cells
  obtain ⟨q0, q1, q2, q3, q4, q5, q6, q7, q8⟩ := g3.cells
  go_wp2_with fail
  clear k0 k1 k2 k3 k4 k5 k6 k7 k8 p0 p1 p2 p3 p4 p5 p6 p7 p8 q0 q1 q2 q3 q4 q5 q6 q7 q8
  (with_reducible refine (R2 _).mono ?_)
  rintro e w8 ⟨⟨a9, c9, rfl, -⟩, x9⟩
  replace g1 := g1.ext x9
  replace g2 := g2.ext x9
  replace g3 := g3.ext x9
  replace hx := hx.trans x9
  clear x9
  obtain ⟨k0, k1, k2, k3, k4, k5, k6, k7, k8⟩ := g1.cells
  obtain ⟨p0, p1, p2, p3, p4, p5, p6, p7, p8⟩ := g2.cells
  obtain ⟨q0, q1, q2, q3, q4, q5, q6, q7, q8⟩ := g3.cells
  go_wp2_with fail
  clear k0 k1 k2 k3 k4 k5 k6 k7 k8 p0 p1 p2 p3 p4 p5 p6 p7 p8 q0 q1 q2 q3 q4 q5 q6 q7 q8
  go_ret
  exact ⟨rfl, hx⟩

/-- Whether a point's labels are short. -/
def shortL (l : List (ByteArray × ByteArray)) : Bool := l.all (fun x => decide (x.1.size ≤ 100) && decide (x.2.size ≤ 100)) && decide (l.length ≤ 12)
set_option maxHeartbeats 4000000 in
set_option maxRecDepth 100000 in
theorem short_any (a : Option Addr) (c : Nat) (l : List (ByteArray × ByteArray)) (r : Int) (f : Bool) (M S m s : Int) (t : Bool) (T : Int) (w : World) (hl : (l.length : Int) ≤ 9223372036854775807) (hA : LabA a l w) (hz : ∀ x ∈ l, x.1.size ≤ 9223372036854775807 ∧ x.2.size ≤ 9223372036854775807) :
    Calls Try.prog 6 #[ptV (.slice a l.length c) r f M S m s t T] w fun e w' => e = .returned (.bool (shortL l)) ∧ Ext w w' := by
  obtain ⟨R, hR⟩ : ∃ R, shortL l = R := ⟨_, rfl⟩
  rw [hR]
  unfold shortL at hR
  replace hR := Lib.hid hR
  unfold ptV
  have g1 : PtIn w.heap.size (.slice a l.length c) r f M S m s t T (w.alloc (.cells #[.slice a l.length c, .int .i64 r, .bool f, .int .i64 M, .int .i64 S, .int .i64 m, .int .i64 s, .bool t, .int .i64 T] 26)) := heap_last _ _
  have hx : Ext w (w.alloc (.cells #[.slice a l.length c, .int .i64 r, .bool f, .int .i64 M, .int .i64 S, .int .i64 m, .int .i64 s, .bool t, .int .i64 T] 26)) := (Ext.refl _).alloc _
  go_enter Try.func6, Try.ntmps6
  go_wp2_with fail
  generalize w.alloc (.cells #[.slice a l.length c, .int .i64 r, .bool f, .int .i64 M, .int .i64 S, .int .i64 m, .int .i64 s, .bool t, .int .i64 T] 26) = W at *
  go_loopw [3] (fun i wr => ∃ k : Nat, i = .int .i64 k ∧ k ≤ l.length ∧ Hid ((l.drop k).all (fun x => decide (x.1.size ≤ 100) && decide (x.2.size ≤ 100)) = l.all (fun x => decide (x.1.size ≤ 100) && decide (x.2.size ≤ 100))) ∧ wr = W) (fun i _ => l.length - (intOf i).toNat)
  case atStart => exact ⟨0, rfl, Nat.zero_le _, Lib.hid rfl, rfl⟩
  case round =>
    obtain ⟨k, rfl, hk, hg, rfl⟩ := hrel
    obtain ⟨k0, k1, k2, k3, k4, k5, k6, k7, k8⟩ := g1.cells
    by_cases hlt : k < l.length
    · have hd := hg.out
      rw [List.drop_eq_getElem_cons hlt, List.all_cons] at hd
      obtain ⟨b, o, rfl, hb, hL⟩ := hA (by omega)
      obtain ⟨q0, q1⟩ := hL k hlt
      have r0 := (hx.cell (p := ⟨b, o + k * 2, none⟩) hb).trans q0
      have r1 := (hx.cell (p := ⟨b, o + k * 2 + 1, none⟩) hb).trans q1
      obtain ⟨z1, z2⟩ := hz l[k] (List.getElem_mem hlt)
      obtain ⟨n, v, hy⟩ : ∃ n v, l[k] = (n, v) := ⟨_, _, rfl⟩
      rw [hy] at hd r0 r1 z1 z2
      dsimp only at r0 r1 hd z1 z2
      clear q0 q1 hg
      by_cases h1 : n.size ≤ 100
      · by_cases h2 : v.size ≤ 100
        · rw [decide_eq_true h1, decide_eq_true h2, Bool.true_and, Bool.true_and] at hd
          replace hd := Lib.hid hd
          go_wp2_with fail
          go_roundw
          case rel => exact ⟨k + 1, rfl, hlt, hd, by first | trivial | rfl⟩
          case measure => simp only [intOf]; omega
        · rw [decide_eq_false h2, Bool.and_false, Bool.false_and] at hd
          have HV : Hid (R = false) := Lib.hid (by rw [← hR.out, ← hd, Bool.false_and])
          clear hd hR
          go_wp2_with fail
          go_ret
          exact ⟨retB HV.out.symm, hx⟩
      · rw [decide_eq_false h1, Bool.false_and, Bool.false_and] at hd
        have HV : Hid (R = false) := Lib.hid (by rw [← hR.out, ← hd, Bool.false_and])
        clear hd hR
        go_wp2_with fail
        go_ret
        exact ⟨retB HV.out.symm, hx⟩
    · have hd := hg.out
      rw [show l.drop k = [] from List.drop_eq_nil_of_le (by omega), List.all_nil] at hd
      have hr := hR.out
      rw [← hd, Bool.true_and] at hr
      have hk3 : l.length ≤ k := by omega
      replace hr := Lib.hid hr
      clear hk hd hg hR hA
      go_wp2_with fail
      go_ret
      exact ⟨retB ((decide_eq_decide.2 (by omega)).trans hr.out), hx⟩
end Go.Proofs.Ytbkhdjbhijmghaa
