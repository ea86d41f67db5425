/- The walk of dec.cut (alias Tryd; printed by tools/mkdcc.py). -/
import Derived.Test.YtiancppdcfahaaaDoorDcB
namespace Go.Proofs.YtiancppdcfahaaaDoor
open Go.RowKit

/-- What cut tells. -/
def CutAt (s : ByteArray) (a b : ByteArray) (at_ : Nat) (ok : Bool) : Prop := ∀ w : World, Calls Tryd.prog 17 #[.string s] w fun e w' => e = .returned (.tuple #[.string a, .string b, .int .i64 at_, .bool ok]) ∧ Ext w w'
theorem ret4 {a a' b b' c c' d d' : Value} (h1 : a = a') (h2 : b = b') (h3 : c = c') (h4 : d = d') : Ending.returned (.tuple #[a, b, c, d]) = .returned (.tuple #[a', b', c', d']) := by rw [h1, h2, h3, h4]
def emp : ByteArray := { data := #[] }

set_option maxHeartbeats 4000000 in
set_option maxRecDepth 100000 in
theorem Cut_A0 (s : ByteArray) (n : Nat) (hs : s.size ≤ 9223372036854775807) (hm : minusB s = false) (hsz : 0 ≤ s.size) (hn : runL ((byL s).drop 0) = n) (h0 : n = 0) : CutAt s emp emp 0 false := by
  intro w
  have C := fun w => HasPrefix_any s w hs
  have D := fun w => ddigits_any s 0 w hs hsz
  rw [hm] at C
  rw [hn] at D
  have hnl : n ≤ s.size := by
    have := runL_le ((byL s).drop 0)
    rw [hn, List.length_drop, byL_length] at this
    omega
  clear hm hn
  subst h0
  go_enter Tryd.func17, Tryd.ntmps17
  go_wp2_with fail
  refine (C _).mono ?_
  rintro e w1 ⟨rfl, rfl⟩
  go_wp2_with fail
  refine (D _).mono ?_
  rintro e w1 ⟨rfl, rfl⟩
  go_wp2_with fail
  all_goals try (exfalso; simp only [beq_eq_false_iff_ne, beq_iff_eq, bne_iff_ne, bne_eq_false_iff_eq, ne_eq] at *; omega)
  all_goals try (go_quiet (fail); go_wp2_with fail)
  all_goals
    refine bodyPost_ret (v := .tuple #[.string emp, .string emp, .int .i64 ((0 : Nat) : Int), .bool false]) ?_ rfl ⟨rfl, by first | exact Ext.refl _ | exact (Ext.refl _).drewN _⟩
    simp [results, Tryd.results17, go_sem, emp]
    all_goals try (rename_i he; exfalso; rw [he] at h1i; simp at h1i; omega)

set_option maxHeartbeats 4000000 in
set_option maxRecDepth 100000 in
theorem Cut_B0 (s : ByteArray) (n : Nat) (hs : s.size ≤ 9223372036854775807) (hm : minusB s = false) (hsz : 0 ≤ s.size) (hn : runL ((byL s).drop 0) = n) (h0 : n ≠ 0) (h1 : n < s.size) (h2 : s[n].toNat ≠ 46) : CutAt s emp emp (n) false := by
  intro w
  have C := fun w => HasPrefix_any s w hs
  have D := fun w => ddigits_any s 0 w hs hsz
  rw [hm] at C
  rw [hn] at D
  have hnl : n ≤ s.size := by
    have := runL_le ((byL s).drop 0)
    rw [hn, List.length_drop, byL_length] at this
    omega
  clear hm hn
  have hc := s[n].toNat_lt
  go_enter Tryd.func17, Tryd.ntmps17
  go_wp2_with fail
  refine (C _).mono ?_
  rintro e w1 ⟨rfl, rfl⟩
  go_wp2_with fail
  refine (D _).mono ?_
  rintro e w1 ⟨rfl, rfl⟩
  go_wp2_with fail
  all_goals try (exfalso; simp only [beq_eq_false_iff_ne, beq_iff_eq, bne_iff_ne, bne_eq_false_iff_eq, ne_eq] at *; omega)
  all_goals try (go_quiet (fail); go_wp2_with fail)
  all_goals
    refine bodyPost_ret (v := .tuple #[.string emp, .string emp, .int .i64 ((n : Nat) : Int), .bool false]) ?_ rfl ⟨rfl, by first | exact Ext.refl _ | exact (Ext.refl _).drewN _⟩
    simp [results, Tryd.results17, go_sem, emp]
    all_goals try (rename_i he; exfalso; rw [he] at h1i; simp at h1i; omega)

set_option maxHeartbeats 4000000 in
set_option maxRecDepth 100000 in
theorem Cut_C0 (s : ByteArray) (n : Nat) (hs : s.size ≤ 9223372036854775807) (hm : minusB s = false) (hsz : 0 ≤ s.size) (hn : runL ((byL s).drop 0) = n) (h0 : n ≠ 0) (h1 : n = s.size) : CutAt s (s.extract 0 s.size) emp s.size true := by
  intro w
  have C := fun w => HasPrefix_any s w hs
  have D := fun w => ddigits_any s 0 w hs hsz
  rw [hm] at C
  rw [hn] at D
  have hnl : n ≤ s.size := by
    have := runL_le ((byL s).drop 0)
    rw [hn, List.length_drop, byL_length] at this
    omega
  clear hm hn
  have h1i : (n : Int) = s.size := by omega
  go_enter Tryd.func17, Tryd.ntmps17
  go_wp2_with fail
  refine (C _).mono ?_
  rintro e w1 ⟨rfl, rfl⟩
  go_wp2_with fail
  refine (D _).mono ?_
  rintro e w1 ⟨rfl, rfl⟩
  go_wp2_with fail
  all_goals try (exfalso; simp only [beq_eq_false_iff_ne, beq_iff_eq, bne_iff_ne, bne_eq_false_iff_eq, ne_eq] at *; omega)
  all_goals try (go_quiet (fail); go_wp2_with fail)
  all_goals
    refine bodyPost_ret (v := .tuple #[.string (s.extract 0 s.size), .string emp, .int .i64 (s.size : Int), .bool true]) ?_ rfl ⟨rfl, by first | exact Ext.refl _ | exact (Ext.refl _).drewN _⟩
    simp [results, Tryd.results17, go_sem, emp]
    all_goals try (rename_i he; exfalso; rw [he] at h1i; simp at h1i; omega)

set_option maxHeartbeats 4000000 in
set_option maxRecDepth 100000 in
theorem Cut_D0 (s : ByteArray) (n : Nat) (hs : s.size ≤ 9223372036854775807) (hm : minusB s = false) (hsz : 0 ≤ s.size) (hn : runL ((byL s).drop 0) = n) (h0 : n ≠ 0) (h1 : n < s.size) (h2 : s[n].toNat = 46) (n2 : Nat) (hn2 : runL ((byL s).drop (n + 1)) = n2) (h3 : n2 = 0) : CutAt s emp emp (n + 1) false := by
  intro w
  have C := fun w => HasPrefix_any s w hs
  have D := fun w => ddigits_any s 0 w hs hsz
  rw [hm] at C
  rw [hn] at D
  have hnl : n ≤ s.size := by
    have := runL_le ((byL s).drop 0)
    rw [hn, List.length_drop, byL_length] at this
    omega
  clear hm hn
  have D2 : ∀ w : World, Calls Tryd.prog 26 #[.string s, .int .i64 ((n : Int) + 1)] w fun e w' => e = .returned (.int .i64 (runL ((byL s).drop (n + 1)))) ∧ w = w' := fun w => ddigits_any s (n + 1) w hs h1
  rw [hn2] at D2
  have hn2l : n + 1 + n2 ≤ s.size := by
    have := runL_le ((byL s).drop (n + 1))
    rw [hn2, List.length_drop, byL_length] at this
    omega
  clear hn2
  subst h3
  go_enter Tryd.func17, Tryd.ntmps17
  go_wp2_with fail
  refine (C _).mono ?_
  rintro e w1 ⟨rfl, rfl⟩
  go_wp2_with fail
  refine (D _).mono ?_
  rintro e w1 ⟨rfl, rfl⟩
  go_wp2_with fail
  all_goals try (exfalso; simp only [beq_eq_false_iff_ne, beq_iff_eq, bne_iff_ne, bne_eq_false_iff_eq, ne_eq] at *; omega)
  refine (D2 _).mono ?_
  rintro e w1 ⟨rfl, rfl⟩
  go_wp2_with fail
  all_goals try (exfalso; simp only [beq_eq_false_iff_ne, beq_iff_eq, bne_iff_ne, bne_eq_false_iff_eq, ne_eq] at *; omega)
  all_goals try (go_quiet (fail); go_wp2_with fail)
  all_goals
    refine bodyPost_ret (v := .tuple #[.string emp, .string emp, .int .i64 ((n + 1 : Nat) : Int), .bool false]) ?_ rfl ⟨rfl, by first | exact Ext.refl _ | exact (Ext.refl _).drewN _⟩
    simp [results, Tryd.results17, go_sem, emp]
    all_goals try (rename_i he; exfalso; rw [he] at h1i; simp at h1i; omega)

set_option maxHeartbeats 4000000 in
set_option maxRecDepth 100000 in
theorem Cut_E0 (s : ByteArray) (n : Nat) (hs : s.size ≤ 9223372036854775807) (hm : minusB s = false) (hsz : 0 ≤ s.size) (hn : runL ((byL s).drop 0) = n) (h0 : n ≠ 0) (h1 : n < s.size) (h2 : s[n].toNat = 46) (n2 : Nat) (hn2 : runL ((byL s).drop (n + 1)) = n2) (h3 : n2 ≠ 0) (h4 : n + 1 + n2 < s.size) : CutAt s emp emp (n + 1 + n2) false := by
  intro w
  have C := fun w => HasPrefix_any s w hs
  have D := fun w => ddigits_any s 0 w hs hsz
  rw [hm] at C
  rw [hn] at D
  have hnl : n ≤ s.size := by
    have := runL_le ((byL s).drop 0)
    rw [hn, List.length_drop, byL_length] at this
    omega
  clear hm hn
  have D2 : ∀ w : World, Calls Tryd.prog 26 #[.string s, .int .i64 ((n : Int) + 1)] w fun e w' => e = .returned (.int .i64 (runL ((byL s).drop (n + 1)))) ∧ w = w' := fun w => ddigits_any s (n + 1) w hs h1
  rw [hn2] at D2
  have hn2l : n + 1 + n2 ≤ s.size := by
    have := runL_le ((byL s).drop (n + 1))
    rw [hn2, List.length_drop, byL_length] at this
    omega
  clear hn2
  go_enter Tryd.func17, Tryd.ntmps17
  go_wp2_with fail
  refine (C _).mono ?_
  rintro e w1 ⟨rfl, rfl⟩
  go_wp2_with fail
  refine (D _).mono ?_
  rintro e w1 ⟨rfl, rfl⟩
  go_wp2_with fail
  all_goals try (exfalso; simp only [beq_eq_false_iff_ne, beq_iff_eq, bne_iff_ne, bne_eq_false_iff_eq, ne_eq] at *; omega)
  refine (D2 _).mono ?_
  rintro e w1 ⟨rfl, rfl⟩
  go_wp2_with fail
  all_goals try (exfalso; simp only [beq_eq_false_iff_ne, beq_iff_eq, bne_iff_ne, bne_eq_false_iff_eq, ne_eq] at *; omega)
  all_goals try (go_quiet (fail); go_wp2_with fail)
  all_goals
    refine bodyPost_ret (v := .tuple #[.string emp, .string emp, .int .i64 ((n + 1 + n2 : Nat) : Int), .bool false]) ?_ rfl ⟨rfl, by first | exact Ext.refl _ | exact (Ext.refl _).drewN _⟩
    simp [results, Tryd.results17, go_sem, emp]
    all_goals try (rename_i he; exfalso; rw [he] at h1i; simp at h1i; omega)

set_option maxHeartbeats 4000000 in
set_option maxRecDepth 100000 in
theorem Cut_F0 (s : ByteArray) (n : Nat) (hs : s.size ≤ 9223372036854775807) (hm : minusB s = false) (hsz : 0 ≤ s.size) (hn : runL ((byL s).drop 0) = n) (h0 : n ≠ 0) (h1 : n < s.size) (h2 : s[n].toNat = 46) (n2 : Nat) (hn2 : runL ((byL s).drop (n + 1)) = n2) (h3 : n2 ≠ 0) (h4 : n + 1 + n2 = s.size) : CutAt s (s.extract 0 (n)) (s.extract (n + 1) s.size) (n + 1 + n2) true := by
  intro w
  have C := fun w => HasPrefix_any s w hs
  have D := fun w => ddigits_any s 0 w hs hsz
  rw [hm] at C
  rw [hn] at D
  have hnl : n ≤ s.size := by
    have := runL_le ((byL s).drop 0)
    rw [hn, List.length_drop, byL_length] at this
    omega
  clear hm hn
  have D2 : ∀ w : World, Calls Tryd.prog 26 #[.string s, .int .i64 ((n : Int) + 1)] w fun e w' => e = .returned (.int .i64 (runL ((byL s).drop (n + 1)))) ∧ w = w' := fun w => ddigits_any s (n + 1) w hs h1
  rw [hn2] at D2
  have hn2l : n + 1 + n2 ≤ s.size := by
    have := runL_le ((byL s).drop (n + 1))
    rw [hn2, List.length_drop, byL_length] at this
    omega
  clear hn2
  go_enter Tryd.func17, Tryd.ntmps17
  go_wp2_with fail
  refine (C _).mono ?_
  rintro e w1 ⟨rfl, rfl⟩
  go_wp2_with fail
  refine (D _).mono ?_
  rintro e w1 ⟨rfl, rfl⟩
  go_wp2_with fail
  all_goals try (exfalso; simp only [beq_eq_false_iff_ne, beq_iff_eq, bne_iff_ne, bne_eq_false_iff_eq, ne_eq] at *; omega)
  refine (D2 _).mono ?_
  rintro e w1 ⟨rfl, rfl⟩
  go_wp2_with fail
  all_goals try (exfalso; simp only [beq_eq_false_iff_ne, beq_iff_eq, bne_iff_ne, bne_eq_false_iff_eq, ne_eq] at *; omega)
  all_goals try (go_quiet (fail); go_wp2_with fail)
  all_goals
    refine bodyPost_ret (v := .tuple #[.string (s.extract 0 (n)), .string (s.extract (n + 1) s.size), .int .i64 ((n + 1 + n2 : Nat) : Int), .bool true]) ?_ rfl ⟨rfl, by first | exact Ext.refl _ | exact (Ext.refl _).drewN _⟩
    simp [results, Tryd.results17, go_sem, emp]
    all_goals try (rename_i he; exfalso; rw [he] at h1i; simp at h1i; omega)

set_option maxHeartbeats 4000000 in
set_option maxRecDepth 100000 in
theorem Cut_A1 (s : ByteArray) (n : Nat) (hs : s.size ≤ 9223372036854775807) (hm : minusB s = true) (hsz : 1 ≤ s.size) (hn : runL ((byL s).drop 1) = n) (h0 : n = 0) : CutAt s emp emp 1 false := by
  intro w
  have C := fun w => HasPrefix_any s w hs
  have D := fun w => ddigits_any s 1 w hs hsz
  rw [hm] at C
  rw [hn] at D
  have hnl : 1 + n ≤ s.size := by
    have := runL_le ((byL s).drop 1)
    rw [hn, List.length_drop, byL_length] at this
    omega
  clear hm hn
  subst h0
  go_enter Tryd.func17, Tryd.ntmps17
  go_wp2_with fail
  refine (C _).mono ?_
  rintro e w1 ⟨rfl, rfl⟩
  go_wp2_with fail
  refine (D _).mono ?_
  rintro e w1 ⟨rfl, rfl⟩
  go_wp2_with fail
  all_goals try (exfalso; simp only [beq_eq_false_iff_ne, beq_iff_eq, bne_iff_ne, bne_eq_false_iff_eq, ne_eq] at *; omega)
  all_goals try (go_quiet (fail); go_wp2_with fail)
  all_goals
    refine bodyPost_ret (v := .tuple #[.string emp, .string emp, .int .i64 ((1 : Nat) : Int), .bool false]) ?_ rfl ⟨rfl, by first | exact Ext.refl _ | exact (Ext.refl _).drewN _⟩
    simp [results, Tryd.results17, go_sem, emp]
    all_goals try (rename_i he; exfalso; rw [he] at h1i; simp at h1i; omega)

set_option maxHeartbeats 4000000 in
set_option maxRecDepth 100000 in
theorem Cut_B1 (s : ByteArray) (n : Nat) (hs : s.size ≤ 9223372036854775807) (hm : minusB s = true) (hsz : 1 ≤ s.size) (hn : runL ((byL s).drop 1) = n) (h0 : n ≠ 0) (h1 : 1 + n < s.size) (h2 : s[1 + n].toNat ≠ 46) : CutAt s emp emp (1 + n) false := by
  intro w
  have C := fun w => HasPrefix_any s w hs
  have D := fun w => ddigits_any s 1 w hs hsz
  rw [hm] at C
  rw [hn] at D
  have hnl : 1 + n ≤ s.size := by
    have := runL_le ((byL s).drop 1)
    rw [hn, List.length_drop, byL_length] at this
    omega
  clear hm hn
  have hc := s[1 + n].toNat_lt
  go_enter Tryd.func17, Tryd.ntmps17
  go_wp2_with fail
  refine (C _).mono ?_
  rintro e w1 ⟨rfl, rfl⟩
  go_wp2_with fail
  refine (D _).mono ?_
  rintro e w1 ⟨rfl, rfl⟩
  go_wp2_with fail
  all_goals try (exfalso; simp only [beq_eq_false_iff_ne, beq_iff_eq, bne_iff_ne, bne_eq_false_iff_eq, ne_eq] at *; omega)
  all_goals try (go_quiet (fail); go_wp2_with fail)
  all_goals
    refine bodyPost_ret (v := .tuple #[.string emp, .string emp, .int .i64 ((1 + n : Nat) : Int), .bool false]) ?_ rfl ⟨rfl, by first | exact Ext.refl _ | exact (Ext.refl _).drewN _⟩
    simp [results, Tryd.results17, go_sem, emp]
    all_goals try (rename_i he; exfalso; rw [he] at h1i; simp at h1i; omega)

set_option maxHeartbeats 4000000 in
set_option maxRecDepth 100000 in
theorem Cut_C1 (s : ByteArray) (n : Nat) (hs : s.size ≤ 9223372036854775807) (hm : minusB s = true) (hsz : 1 ≤ s.size) (hn : runL ((byL s).drop 1) = n) (h0 : n ≠ 0) (h1 : 1 + n = s.size) : CutAt s (s.extract 1 s.size) emp s.size true := by
  intro w
  have C := fun w => HasPrefix_any s w hs
  have D := fun w => ddigits_any s 1 w hs hsz
  rw [hm] at C
  rw [hn] at D
  have hnl : 1 + n ≤ s.size := by
    have := runL_le ((byL s).drop 1)
    rw [hn, List.length_drop, byL_length] at this
    omega
  clear hm hn
  have h1i : (1 + n : Int) = s.size := by omega
  go_enter Tryd.func17, Tryd.ntmps17
  go_wp2_with fail
  refine (C _).mono ?_
  rintro e w1 ⟨rfl, rfl⟩
  go_wp2_with fail
  refine (D _).mono ?_
  rintro e w1 ⟨rfl, rfl⟩
  go_wp2_with fail
  all_goals try (exfalso; simp only [beq_eq_false_iff_ne, beq_iff_eq, bne_iff_ne, bne_eq_false_iff_eq, ne_eq] at *; omega)
  all_goals try (go_quiet (fail); go_wp2_with fail)
  all_goals
    refine bodyPost_ret (v := .tuple #[.string (s.extract 1 s.size), .string emp, .int .i64 (s.size : Int), .bool true]) ?_ rfl ⟨rfl, by first | exact Ext.refl _ | exact (Ext.refl _).drewN _⟩
    simp [results, Tryd.results17, go_sem, emp]
    all_goals try (rename_i he; exfalso; rw [he] at h1i; simp at h1i; omega)

set_option maxHeartbeats 4000000 in
set_option maxRecDepth 100000 in
theorem Cut_D1 (s : ByteArray) (n : Nat) (hs : s.size ≤ 9223372036854775807) (hm : minusB s = true) (hsz : 1 ≤ s.size) (hn : runL ((byL s).drop 1) = n) (h0 : n ≠ 0) (h1 : 1 + n < s.size) (h2 : s[1 + n].toNat = 46) (n2 : Nat) (hn2 : runL ((byL s).drop (1 + n + 1)) = n2) (h3 : n2 = 0) : CutAt s emp emp (1 + n + 1) false := by
  intro w
  have C := fun w => HasPrefix_any s w hs
  have D := fun w => ddigits_any s 1 w hs hsz
  rw [hm] at C
  rw [hn] at D
  have hnl : 1 + n ≤ s.size := by
    have := runL_le ((byL s).drop 1)
    rw [hn, List.length_drop, byL_length] at this
    omega
  clear hm hn
  have D2 : ∀ w : World, Calls Tryd.prog 26 #[.string s, .int .i64 ((1 + (n : Int) : Int) + 1)] w fun e w' => e = .returned (.int .i64 (runL ((byL s).drop (1 + n + 1)))) ∧ w = w' := fun w => ddigits_any s (1 + n + 1) w hs h1
  rw [hn2] at D2
  have hn2l : 1 + n + 1 + n2 ≤ s.size := by
    have := runL_le ((byL s).drop (1 + n + 1))
    rw [hn2, List.length_drop, byL_length] at this
    omega
  clear hn2
  subst h3
  go_enter Tryd.func17, Tryd.ntmps17
  go_wp2_with fail
  refine (C _).mono ?_
  rintro e w1 ⟨rfl, rfl⟩
  go_wp2_with fail
  refine (D _).mono ?_
  rintro e w1 ⟨rfl, rfl⟩
  go_wp2_with fail
  all_goals try (exfalso; simp only [beq_eq_false_iff_ne, beq_iff_eq, bne_iff_ne, bne_eq_false_iff_eq, ne_eq] at *; omega)
  refine (D2 _).mono ?_
  rintro e w1 ⟨rfl, rfl⟩
  go_wp2_with fail
  all_goals try (exfalso; simp only [beq_eq_false_iff_ne, beq_iff_eq, bne_iff_ne, bne_eq_false_iff_eq, ne_eq] at *; omega)
  all_goals try (go_quiet (fail); go_wp2_with fail)
  all_goals
    refine bodyPost_ret (v := .tuple #[.string emp, .string emp, .int .i64 ((1 + n + 1 : Nat) : Int), .bool false]) ?_ rfl ⟨rfl, by first | exact Ext.refl _ | exact (Ext.refl _).drewN _⟩
    simp [results, Tryd.results17, go_sem, emp]
    all_goals try (rename_i he; exfalso; rw [he] at h1i; simp at h1i; omega)

set_option maxHeartbeats 4000000 in
set_option maxRecDepth 100000 in
theorem Cut_E1 (s : ByteArray) (n : Nat) (hs : s.size ≤ 9223372036854775807) (hm : minusB s = true) (hsz : 1 ≤ s.size) (hn : runL ((byL s).drop 1) = n) (h0 : n ≠ 0) (h1 : 1 + n < s.size) (h2 : s[1 + n].toNat = 46) (n2 : Nat) (hn2 : runL ((byL s).drop (1 + n + 1)) = n2) (h3 : n2 ≠ 0) (h4 : 1 + n + 1 + n2 < s.size) : CutAt s emp emp (1 + n + 1 + n2) false := by
  intro w
  have C := fun w => HasPrefix_any s w hs
  have D := fun w => ddigits_any s 1 w hs hsz
  rw [hm] at C
  rw [hn] at D
  have hnl : 1 + n ≤ s.size := by
    have := runL_le ((byL s).drop 1)
    rw [hn, List.length_drop, byL_length] at this
    omega
  clear hm hn
  have D2 : ∀ w : World, Calls Tryd.prog 26 #[.string s, .int .i64 ((1 + (n : Int) : Int) + 1)] w fun e w' => e = .returned (.int .i64 (runL ((byL s).drop (1 + n + 1)))) ∧ w = w' := fun w => ddigits_any s (1 + n + 1) w hs h1
  rw [hn2] at D2
  have hn2l : 1 + n + 1 + n2 ≤ s.size := by
    have := runL_le ((byL s).drop (1 + n + 1))
    rw [hn2, List.length_drop, byL_length] at this
    omega
  clear hn2
  go_enter Tryd.func17, Tryd.ntmps17
  go_wp2_with fail
  refine (C _).mono ?_
  rintro e w1 ⟨rfl, rfl⟩
  go_wp2_with fail
  refine (D _).mono ?_
  rintro e w1 ⟨rfl, rfl⟩
  go_wp2_with fail
  all_goals try (exfalso; simp only [beq_eq_false_iff_ne, beq_iff_eq, bne_iff_ne, bne_eq_false_iff_eq, ne_eq] at *; omega)
  refine (D2 _).mono ?_
  rintro e w1 ⟨rfl, rfl⟩
  go_wp2_with fail
  all_goals try (exfalso; simp only [beq_eq_false_iff_ne, beq_iff_eq, bne_iff_ne, bne_eq_false_iff_eq, ne_eq] at *; omega)
  all_goals try (go_quiet (fail); go_wp2_with fail)
  all_goals
    refine bodyPost_ret (v := .tuple #[.string emp, .string emp, .int .i64 ((1 + n + 1 + n2 : Nat) : Int), .bool false]) ?_ rfl ⟨rfl, by first | exact Ext.refl _ | exact (Ext.refl _).drewN _⟩
    simp [results, Tryd.results17, go_sem, emp]
    all_goals try (rename_i he; exfalso; rw [he] at h1i; simp at h1i; omega)

set_option maxHeartbeats 4000000 in
set_option maxRecDepth 100000 in
theorem Cut_F1 (s : ByteArray) (n : Nat) (hs : s.size ≤ 9223372036854775807) (hm : minusB s = true) (hsz : 1 ≤ s.size) (hn : runL ((byL s).drop 1) = n) (h0 : n ≠ 0) (h1 : 1 + n < s.size) (h2 : s[1 + n].toNat = 46) (n2 : Nat) (hn2 : runL ((byL s).drop (1 + n + 1)) = n2) (h3 : n2 ≠ 0) (h4 : 1 + n + 1 + n2 = s.size) : CutAt s (s.extract 1 (1 + n)) (s.extract (1 + n + 1) s.size) (1 + n + 1 + n2) true := by
  intro w
  have C := fun w => HasPrefix_any s w hs
  have D := fun w => ddigits_any s 1 w hs hsz
  rw [hm] at C
  rw [hn] at D
  have hnl : 1 + n ≤ s.size := by
    have := runL_le ((byL s).drop 1)
    rw [hn, List.length_drop, byL_length] at this
    omega
  clear hm hn
  have D2 : ∀ w : World, Calls Tryd.prog 26 #[.string s, .int .i64 ((1 + (n : Int) : Int) + 1)] w fun e w' => e = .returned (.int .i64 (runL ((byL s).drop (1 + n + 1)))) ∧ w = w' := fun w => ddigits_any s (1 + n + 1) w hs h1
  rw [hn2] at D2
  have hn2l : 1 + n + 1 + n2 ≤ s.size := by
    have := runL_le ((byL s).drop (1 + n + 1))
    rw [hn2, List.length_drop, byL_length] at this
    omega
  clear hn2
  go_enter Tryd.func17, Tryd.ntmps17
  go_wp2_with fail
  refine (C _).mono ?_
  rintro e w1 ⟨rfl, rfl⟩
  go_wp2_with fail
  refine (D _).mono ?_
  rintro e w1 ⟨rfl, rfl⟩
  go_wp2_with fail
  all_goals try (exfalso; simp only [beq_eq_false_iff_ne, beq_iff_eq, bne_iff_ne, bne_eq_false_iff_eq, ne_eq] at *; omega)
  refine (D2 _).mono ?_
  rintro e w1 ⟨rfl, rfl⟩
  go_wp2_with fail
  all_goals try (exfalso; simp only [beq_eq_false_iff_ne, beq_iff_eq, bne_iff_ne, bne_eq_false_iff_eq, ne_eq] at *; omega)
  all_goals try (go_quiet (fail); go_wp2_with fail)
  all_goals
    refine bodyPost_ret (v := .tuple #[.string (s.extract 1 (1 + n)), .string (s.extract (1 + n + 1) s.size), .int .i64 ((1 + n + 1 + n2 : Nat) : Int), .bool true]) ?_ rfl ⟨rfl, by first | exact Ext.refl _ | exact (Ext.refl _).drewN _⟩
    simp [results, Tryd.results17, go_sem, emp]
    all_goals try (rename_i he; exfalso; rw [he] at h1i; simp at h1i; omega)

end Go.Proofs.YtiancppdcfahaaaDoor
