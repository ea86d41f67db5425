/- The law DecBack answers true: the walk (alias Tryd). -/
import Derived.Test.YtiancppdcfahaaaDoorDcK
import Derived.Deep.RegionHeld3
namespace Go.Proofs.YtiancppdcfahaaaDoor
open Go.RowKit

theorem decOk_small {N s : Nat} (hN : N ≤ 9223372036854775807) (hs : s ≤ 18) : decOk N s = true := by
  obtain ⟨e, h1, h2⟩ := strip_spec s N
  have h3 : (strip N s).1 ≤ N := by
    have : (strip N s).1 * 1 ≤ (strip N s).1 * 10 ^ (s - (strip N s).2) := Nat.mul_le_mul_left _ (Nat.pow_pos (by omega))
    omega
  unfold decOk
  exact decide_eq_true ⟨by omega, by omega⟩
theorem printL_len {M S : Int} (h : goodB M S = true) (hM : I64 M) : (printL M S).length ≤ 60 := by
  obtain ⟨⟨hS0, hS1⟩, _⟩ := good_of h
  unfold I64 at hM
  rw [print_is h, List.length_append, List.length_append, asc_length]
  have h1 : (highD M.natAbs S.toNat).length ≤ 21 := by
    have : (digs (M.natAbs / 10 ^ S.toNat / 10)).length ≤ 19 := digs_length (by
      have := Nat.div_le_self M.natAbs (10 ^ S.toNat)
      omega)
    simp [highD]; omega
  have h2 : (if M < 0 then [45] else ([] : List Nat)).length ≤ 1 := by split <;> simp
  have h3 : (if 0 < S.toNat then 46 :: asc (lowD M.natAbs S.toNat) else []).length ≤ 20 := by
    split
    · rw [List.length_cons, asc_length, lowD_length]; omega
    · simp
  omega
theorem printL_pos {M S : Int} (h : goodB M S = true) : 0 < (printL M S).length := by
  rw [print_is h, List.length_append, List.length_append, asc_length]
  have := high_pos M.natAbs S.toNat
  omega
theorem strN_len (M S : Int) : (strN (printL M S)).size = (printL M S).length := by rw [← byL_length, byL_strN _ (print_bytes M S)]
/-- No two decimals that may be have one text. -/
theorem print_inj {M S M' S' : Int} (g : goodB M S = true) (i : I64 M) (g' : goodB M' S' = true) (i' : I64 M') (h : strN (printL M S) = strN (printL M' S')) : M = M' ∧ S = S' := by
  have h1 := parse_print g i (strN (printL M S)) (byL_strN _ (print_bytes M S))
  have h2 := parse_print g' i' (strN (printL M' S')) (byL_strN _ (print_bytes M' S'))
  rw [h, h2] at h1
  injection h1 with h1 _
  injection h1 with h1 h3
  exact ⟨h1.symm, h3.symm⟩
theorem canZ_no {m : Int} {j : Nat} (hj : j ≤ 18) (hm : I64 m) (h : (canZ m j).2 = false) : m = -9223372036854775808 := by
  by_cases hm0 : m = -9223372036854775808
  · exact hm0
  · rw [canZ2, decOk_small (by unfold I64 at hm; omega) hj] at h
    cases h

set_option maxHeartbeats 8000000 in
set_option maxRecDepth 100000 in
theorem DecBack_no (m n s t : Int) (i j : Nat) (x y : Bool) (M S M' S' : Int) (w : World) (hs : 0 ≤ s ∧ s ≤ 255) (ht : 0 ≤ t ∧ t ≤ 255) (hi : s % 19 = (i : Int)) (hj : t % 19 = (j : Int))
    (N1 : ∀ w, Calls Tryd.prog 11 #[.int .i64 m, .int .i64 i] w fun e w' => e = .returned (.tuple #[.agg #[.int .i64 M, .int .i64 S], .bool x]) ∧ Ext w w')
    (N2 : ∀ w, Calls Tryd.prog 11 #[.int .i64 n, .int .i64 j] w fun e w' => e = .returned (.tuple #[.agg #[.int .i64 M', .int .i64 S'], .bool y]) ∧ Ext w w')
    (hx : x = false → m = -9223372036854775808) (hy : y = false → n = -9223372036854775808) (hno : (x && y) = false) :
    Calls Tryd.prog 4 #[.int .i64 m, .int .i64 n, .int .u8 s, .int .u8 t] w fun e w' => e = .returned (.bool true) ∧ Ext w w' := by
  have HI := Lib.hid hi
  have HJ := Lib.hid hj
  go_enter Tryd.func4, Tryd.ntmps4
  go_wp2_with fail
  refine (known_any _).mono ?_
  rintro e w1 ⟨rfl, x1⟩
  go_wp2_with fail
  rw [hi]
  refine (N1 _).mono ?_
  rintro e w2 ⟨rfl, x2⟩
  go_wp2_with fail
  rw [hj]
  refine (N2 _).mono ?_
  rintro e w3 ⟨rfl, x3⟩
  have hX := ((((x1.trans x2).alloc (.cells #[.int .i64 M, .int .i64 S] 23)).trans x3).alloc (.cells #[.int .i64 M', .int .i64 S'] 23))
  clear N1 N2 HI HJ
  cases x
  · obtain rfl := hx rfl
    cases y
    · obtain rfl := hy rfl
      go_wp2_with fail
      go_ret
      exact ⟨rfl, hX⟩
    · go_wp2_with fail
      go_ret
      exact ⟨rfl, hX⟩
  · cases y
    · obtain rfl := hy rfl
      go_wp2_with fail
      go_ret
      exact ⟨rfl, hX⟩
    · cases hno

set_option maxHeartbeats 8000000 in
set_option maxRecDepth 100000 in
theorem DecBack_yes (m n s t : Int) (i j : Nat) (M S M' S' : Int) (P Q : ByteArray) (w : World) (hs : 0 ≤ s ∧ s ≤ 255) (ht : 0 ≤ t ∧ t ≤ 255) (hi : s % 19 = (i : Int)) (hj : t % 19 = (j : Int))
    (N1 : ∀ w, Calls Tryd.prog 11 #[.int .i64 m, .int .i64 i] w fun e w' => e = .returned (.tuple #[.agg #[.int .i64 M, .int .i64 S], .bool true]) ∧ Ext w w')
    (N2 : ∀ w, Calls Tryd.prog 11 #[.int .i64 n, .int .i64 j] w fun e w' => e = .returned (.tuple #[.agg #[.int .i64 M', .int .i64 S'], .bool true]) ∧ Ext w w')
    (P1 : ∀ w, Calls Tryd.prog 15 #[.agg #[.int .i64 M, .int .i64 S]] w fun e w' => e = .returned (.string P) ∧ Ext w w')
    (P2 : ∀ w, Calls Tryd.prog 15 #[.agg #[.int .i64 M', .int .i64 S']] w fun e w' => e = .returned (.string Q) ∧ Ext w w')
    (G1 : ∀ w, Calls Tryd.prog 13 #[.agg #[.int .i64 M, .int .i64 S]] w fun e w' => e = .returned (.bool true) ∧ Ext w w')
    (G2 : ∀ w, Calls Tryd.prog 13 #[.agg #[.int .i64 M', .int .i64 S']] w fun e w' => e = .returned (.bool true) ∧ Ext w w')
    (R : ∀ w, Calls Tryd.prog 9 #[.string P] w fun e w' => e = .returned (.tuple #[.agg #[.int .i64 M, .int .i64 S], .int .i64 0, .int .i64 0]) ∧ Ext w w')
    (hP : 0 < P.size) (hP2 : P.size ≤ 900) (HT : Hid ((P.toList == Q.toList) = (decide (M = M') && decide (S = S')))) :
    Calls Tryd.prog 4 #[.int .i64 m, .int .i64 n, .int .u8 s, .int .u8 t] w fun e w' => e = .returned (.bool true) ∧ Ext w w' := by
  have HI := Lib.hid hi
  have HJ := Lib.hid hj
  go_enter Tryd.func4, Tryd.ntmps4
  go_wp2_with fail
  refine (known_any _).mono ?_
  rintro e w1 ⟨rfl, x1⟩
  go_wp2_with fail
  rw [hi]
  refine (N1 _).mono ?_
  rintro e w2 ⟨rfl, x2⟩
  go_wp2_with fail
  rw [hj]
  refine (N2 _).mono ?_
  rintro e w3 ⟨rfl, x3⟩
  have hX := ((((x1.trans x2).alloc (.cells #[.int .i64 M, .int .i64 S] 23)).trans x3).alloc (.cells #[.int .i64 M', .int .i64 S'] 23))
  have k1 : DecIn w2.heap.size M S ((w3.alloc (.cells #[.int .i64 M', .int .i64 S'] 23))) := (DecIn.ext (heap_last w2 _) x3).ext ((Ext.refl _).alloc _)
  have k2 : DecIn w3.heap.size M' S' ((w3.alloc (.cells #[.int .i64 M', .int .i64 S'] 23))) := heap_last _ _
  clear N1 N2 HI HJ hi hj
  go_wp2_with fail
  generalize w3.alloc (.cells #[.int .i64 M', .int .i64 S'] 23) = W at *
  generalize w2.heap.size = bA at *
  generalize w3.heap.size = bB at *
  obtain ⟨c0, c1⟩ := k1.cells
  obtain ⟨d0, d1⟩ := k2.cells
  have Z : Ext W W.drew := (Ext.refl _).drew
  go_region_held3 (fun w' => w'.cell? ⟨bA, 0, none⟩ = some (.int .i64 M) ∧ w'.cell? ⟨bA, 1, none⟩ = some (.int .i64 S) ∧ w'.cell? ⟨bB, 0, none⟩ = some (.int .i64 M') ∧ w'.cell? ⟨bB, 1, none⟩ = some (.int .i64 S')) (first | exact ⟨p0, p1, q0, q1⟩ | exact ⟨c0, c1, d0, d1⟩ | go_keep) (first
    | (go_at_call 15; (with_reducible refine (P1 _).mono ?_); rintro e wz ⟨rfl, xz⟩; replace Z := Z.trans xz; have p0 := (k1.ext Z).cells.1; have p1 := (k1.ext Z).cells.2; have q0 := (k2.ext Z).cells.1; have q1 := (k2.ext Z).cells.2)
    | (go_at_call 15; (with_reducible refine (P2 _).mono ?_); rintro e wz ⟨rfl, xz⟩; replace Z := Z.trans xz; have p0 := (k1.ext Z).cells.1; have p1 := (k1.ext Z).cells.2; have q0 := (k2.ext Z).cells.1; have q1 := (k2.ext Z).cells.2))
  all_goals
    go_wp2_with fail
    refine (R _).mono ?_
    rintro e w5 ⟨rfl, x5⟩
    have Z2 := (Z.trans x5).alloc (.cells #[.int .i64 M, .int .i64 S] 23)
    have k3 : DecIn w5.heap.size M S ((w5.alloc (.cells #[.int .i64 M, .int .i64 S] 23))) := heap_last _ _
    have k1' := k1.ext Z2
    have k2' := k2.ext Z2
    obtain ⟨p0, p1⟩ := k1'.cells
    obtain ⟨q0, q1⟩ := k2'.cells
    go_wp2_with fail
    refine (G1 _).mono ?_
    rintro e w6 ⟨rfl, x6⟩
    replace k1' := k1'.ext x6
    replace k2' := k2'.ext x6
    replace k3 := k3.ext x6
    obtain ⟨p0, p1⟩ := k1'.cells
    obtain ⟨q0, q1⟩ := k2'.cells
    go_wp2_with fail
    refine (G2 _).mono ?_
    rintro e w7 ⟨rfl, x7⟩
    replace k1' := k1'.ext x7
    replace k2' := k2'.ext x7
    replace k3 := k3.ext x7
    obtain ⟨p0, p1⟩ := k1'.cells
    obtain ⟨q0, q1⟩ := k2'.cells
    obtain ⟨r0, r1⟩ := k3.cells
    go_wp2_with fail
    all_goals
      go_ret
      refine ⟨retB ?_, ((hX.trans Z2).trans x6).trans x7⟩
      rw [HT.out]
      simp [*]

theorem DecBack_main (m n s t : Int) (w : World) (hm : I64 m) (hn : I64 n) (hs : 0 ≤ s ∧ s ≤ 255) (ht : 0 ≤ t ∧ t ≤ 255) :
    Calls Tryd.prog 4 #[.int .i64 m, .int .i64 n, .int .u8 s, .int .u8 t] w fun e w' => e = .returned (.bool true) ∧ Ext w w' := by
  obtain ⟨i, hi⟩ : ∃ i : Nat, s % 19 = (i : Int) := ⟨(s % 19).toNat, by omega⟩
  obtain ⟨j, hj⟩ : ∃ j : Nat, t % 19 = (j : Int) := ⟨(t % 19).toNat, by omega⟩
  have hi18 : i ≤ 18 := by omega
  have hj18 : j ≤ 18 := by omega
  have N1 := fun w => DNorm_any m i w hm (by omega)
  have N2 := fun w => DNorm_any n j w hn (by omega)
  have n1 := canZ_no (m := m) hi18 hm
  have n2 := canZ_no (m := n) hj18 hn
  obtain ⟨g1, i1⟩ := canZ_is_good m i
  obtain ⟨g2, i2⟩ := canZ_is_good n j
  cases hx : (canZ m i).2 with
  | false =>
    exact DecBack_no m n s t i j (canZ m i).2 (canZ n j).2 _ _ _ _ w hs ht hi hj N1 N2 n1 n2 (by rw [hx]; rfl)
  | true =>
    cases hy : (canZ n j).2 with
    | false =>
      exact DecBack_no m n s t i j (canZ m i).2 (canZ n j).2 _ _ _ _ w hs ht hi hj N1 N2 n1 n2 (by rw [hx, hy]; rfl)
    | true =>
      rw [hx] at N1
      rw [hy] at N2
      obtain ⟨⟨a0, a1⟩, _⟩ := good_of g1
      obtain ⟨⟨b0, b1⟩, _⟩ := good_of g2
      have P1 := fun w => Print_any (canZ m i).1.1 (canZ m i).1.2 w i1 (by unfold I64; omega)
      have P2 := fun w => Print_any (canZ n j).1.1 (canZ n j).1.2 w i2 (by unfold I64; omega)
      have G1 := fun w => Good_any (canZ m i).1.1 (canZ m i).1.2 w i1 (by unfold I64; omega)
      have G2 := fun w => Good_any (canZ n j).1.1 (canZ n j).1.2 w i2 (by unfold I64; omega)
      rw [g1] at G1
      rw [g2] at G2
      have hl := strN_len (canZ m i).1.1 (canZ m i).1.2
      have hl1 := printL_len g1 i1
      have hl2 := printL_pos g1
      have R := fun w => ParseIs.of (s := strN (printL (canZ m i).1.1 (canZ m i).1.2)) (by omega) (parse_print g1 i1 _ (byL_strN _ (print_bytes _ _))) w
      refine DecBack_yes m n s t i j _ _ _ _ _ _ w hs ht hi hj N1 N2 P1 P2 G1 G2 R (by omega) (by omega) (Lib.hid ?_)
      by_cases he : (canZ m i).1.1 = (canZ n j).1.1 ∧ (canZ m i).1.2 = (canZ n j).1.2
      · rw [he.1, he.2]; simp
      · rw [show (decide ((canZ m i).1.1 = (canZ n j).1.1) && decide ((canZ m i).1.2 = (canZ n j).1.2)) = false from by
          rw [← Bool.decide_and]; exact decide_eq_false he]
        apply beq_eq_false_iff_ne.2
        intro h
        apply he
        refine print_inj g1 i1 g2 i2 ?_
        rw [ByteArray.toList_eq, ByteArray.toList_eq] at h
        exact ByteArray.ext (Array.ext' h)
end Go.Proofs.YtiancppdcfahaaaDoor
