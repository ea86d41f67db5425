/- The law DecForms answers true: the walk (alias Tryd; printed by tools/mkdcf.py). -/
import Derived.Test.YtiancppdcfahaaaDoorDcForm
namespace Go.Proofs.YtiancppdcfahaaaDoor
open Go.RowKit

set_option maxHeartbeats 8000000 in
set_option maxRecDepth 100000 in
theorem DecForms_no (m s ah be : Int) (i : Nat) (M S : Int) (w : World) (hs : 0 ≤ s ∧ s ≤ 255) (hi : s % 19 = (i : Int))
    (N1 : ∀ w, Calls Tryd.prog 11 #[.int .i64 m, .int .i64 i] w fun e w' => e = .returned (.tuple #[.agg #[.int .i64 M, .int .i64 S], .bool false]) ∧ Ext w w')
    (hx : m = -9223372036854775808) :
    Calls Tryd.prog 5 #[.int .i64 m, .int .u8 s, .int .u8 ah, .int .u8 be] w fun e w' => e = .returned (.bool true) ∧ Ext w w' := by
  subst hx
  go_enter Tryd.func5, Tryd.ntmps5
  go_wp2_with fail
  refine (known_any _).mono ?_
  rintro e w1 ⟨rfl, x1⟩
  go_wp2_with fail
  rw [hi]
  refine (N1 _).mono ?_
  rintro e w2 ⟨rfl, x2⟩
  go_wp2_with fail
  go_ret
  exact ⟨rfl, (x1.trans x2).alloc _⟩

set_option maxHeartbeats 16000000 in
set_option maxRecDepth 100000 in
theorem DecForms_0z0 (m s ah be : Int) (i a b : Nat) (M S : Int) (P : ByteArray) (B : List Nat) (w : World) (hs : 0 ≤ s ∧ s ≤ 255) (hah : 0 ≤ ah ∧ ah ≤ 255) (hbe : 0 ≤ be ∧ be ≤ 255) (hi : s % 19 = (i : Int)) (ha : ah % 9 = (a : Int)) (hbb : be % 5 = (b : Int))
    (N1 : ∀ w, Calls Tryd.prog 11 #[.int .i64 m, .int .i64 i] w fun e w' => e = .returned (.tuple #[.agg #[.int .i64 M, .int .i64 S], .bool true]) ∧ Ext w w')
    (P1 : ∀ w, Calls Tryd.prog 15 #[.agg #[.int .i64 M, .int .i64 S]] w fun e w' => e = .returned (.string P) ∧ Ext w w')
    (hM : M ≥ 0) (hS : S = 0) (hb : ¬ 0 < b) (hP : 0 < P.size) (hP2 : P.size ≤ 100) (hB : Hid (byL P = [] ++ B))
    (R : ∀ (T : ByteArray), T.size ≤ 900 → byL T = [] ++ List.replicate a 48 ++ B ++ [] ++ List.replicate b 48 → ∀ w, Calls Tryd.prog 9 #[.string T] w fun e w' => e = .returned (.tuple #[.agg #[.int .i64 M, .int .i64 S], .int .i64 0, .int .i64 0]) ∧ Ext w w') :
    Calls Tryd.prog 5 #[.int .i64 m, .int .u8 s, .int .u8 ah, .int .u8 be] w fun e w' => e = .returned (.bool true) ∧ Ext w w' := by
  subst hS
  go_enter Tryd.func5, Tryd.ntmps5
  go_wp2_with fail
  refine (known_any _).mono ?_
  rintro e w1 ⟨rfl, x1⟩
  go_wp2_with fail
  rw [hi]
  refine (N1 _).mono ?_
  rintro e w2 ⟨rfl, x2⟩
  have hX := (x1.trans x2).alloc (.cells #[.int .i64 M, .int .i64 0] 23)
  have k1 : DecIn w2.heap.size M 0 (w2.alloc (.cells #[.int .i64 M, .int .i64 0] 23)) := heap_last _ _
  clear N1 hi
  obtain ⟨c0, c1⟩ := k1.cells
  go_wp2_with fail
  refine (P1 _).mono ?_
  rintro e w3 ⟨rfl, x3⟩
  replace hX := hX.trans x3
  replace k1 := k1.ext x3
  obtain ⟨c0, c1⟩ := k1.cells
  clear P1 x1 x2 x3
  go_wp2_with fail
  go_loopw [12, 13] (fun x y wr => ∃ (t : ByteArray) (k : Nat), x = .string t ∧ y = .int .i64 k ∧ k ≤ a ∧ t.size = 0 + k ∧ Hid (byL t = [] ++ List.replicate k 48) ∧ Ext w3 wr) (fun _ y _ => a - (intOf y).toNat)
  case atStart => exact ⟨_, 0, rfl, rfl, by omega, rfl, rfl, Ext.refl _⟩
  case round =>
    obtain ⟨t, k, rfl, rfl, hk, htz, htb, xr⟩ := hrel
    by_cases hka : k < a
    · have hlt : (k : Int) < ah % 9 := by omega
      have hz : (t ++ { data := #[48] }).size = t.size + 1 := ByteArray.size_append
      have HB : Hid (byL (t ++ { data := #[48] }) = [] ++ List.replicate (k + 1) 48) := Lib.hid (by rw [byL_append, htb.out, List.replicate_succ', List.append_assoc]; rfl)
      have HZ := Lib.hid hz
      clear hz
      go_wp2_with fail
      go_roundw
      case rel => exact ⟨_, k + 1, rfl, rfl, hka, by rw [HZ.out]; omega, HB, xr⟩
      case measure => simp only [intOf]; omega
    · have hka2 : k = a := by omega
      subst hka2
      have hlt : ¬ (k : Int) < ah % 9 := by omega
      obtain ⟨d0, d1⟩ := (k1.ext xr).cells
      have hz2 : (t ++ P).size ≤ 9 + P.size := by
        rw [ByteArray.size_append]
        skip
        omega
      have HB2 : Hid (byL (t ++ P) = [] ++ List.replicate k 48 ++ B) := Lib.hid (by
        rw [byL_append, htb.out]
        rw [hB.out]; rfl)
      have hb5 : ¬ be % 5 > 0 := by omega
      go_wp2_with fail
      clear hlt
      go_loopw [12, 14] (fun x y wq => ∃ (u : ByteArray) (j : Nat), x = .string u ∧ y = .int .i64 j ∧ j ≤ b ∧ u.size ≤ 10 + P.size + j ∧ Hid (byL u = [] ++ List.replicate k 48 ++ B ++ [] ++ List.replicate j 48) ∧ Ext wr wq) (fun _ y _ => b - (intOf y).toNat)
      case atStart => exact ⟨_, 0, rfl, rfl, by omega, by omega, Lib.hid (by rw [HB2.out]; simp), Ext.refl _⟩
      case round =>
        obtain ⟨u, j, rfl, rfl, hj, huz, hub, xq⟩ := hrel
        by_cases hjb : j < b
        · exfalso; omega
        · have hjb2 : j = b := by omega
          subst hjb2
          have hlt : ¬ (j : Int) < be % 5 := by omega
          have RR := R u (by omega) hub.out
          replace k1 := (k1.ext xr).ext xq
          replace hX := (hX.trans xr).trans xq
          clear R hub HB2 d0 d1 c0 c1 htb
          go_wp2_with fail
          refine (RR _).mono ?_
          rintro e w5 ⟨rfl, x5⟩
          replace hX := (hX.trans x5).alloc (.cells #[.int .i64 M, .int .i64 0] 23)
          replace k1 := (k1.ext x5).ext ((Ext.refl w5).alloc (.cells #[.int .i64 M, .int .i64 0] 23))
          have k2 : DecIn w5.heap.size M 0 (w5.alloc (.cells #[.int .i64 M, .int .i64 0] 23)) := heap_last _ _
          obtain ⟨c0, c1⟩ := k1.cells
          obtain ⟨d0, d1⟩ := k2.cells
          go_wp2_with fail
          go_ret
          exact ⟨retB (by simp), hX⟩

set_option maxHeartbeats 16000000 in
set_option maxRecDepth 100000 in
theorem DecForms_0zb (m s ah be : Int) (i a b : Nat) (M S : Int) (P : ByteArray) (B : List Nat) (w : World) (hs : 0 ≤ s ∧ s ≤ 255) (hah : 0 ≤ ah ∧ ah ≤ 255) (hbe : 0 ≤ be ∧ be ≤ 255) (hi : s % 19 = (i : Int)) (ha : ah % 9 = (a : Int)) (hbb : be % 5 = (b : Int))
    (N1 : ∀ w, Calls Tryd.prog 11 #[.int .i64 m, .int .i64 i] w fun e w' => e = .returned (.tuple #[.agg #[.int .i64 M, .int .i64 S], .bool true]) ∧ Ext w w')
    (P1 : ∀ w, Calls Tryd.prog 15 #[.agg #[.int .i64 M, .int .i64 S]] w fun e w' => e = .returned (.string P) ∧ Ext w w')
    (hM : M ≥ 0) (hS : S = 0) (hb : 0 < b) (hP : 0 < P.size) (hP2 : P.size ≤ 100) (hB : Hid (byL P = [] ++ B))
    (R : ∀ (T : ByteArray), T.size ≤ 900 → byL T = [] ++ List.replicate a 48 ++ B ++ [46] ++ List.replicate b 48 → ∀ w, Calls Tryd.prog 9 #[.string T] w fun e w' => e = .returned (.tuple #[.agg #[.int .i64 M, .int .i64 S], .int .i64 0, .int .i64 0]) ∧ Ext w w') :
    Calls Tryd.prog 5 #[.int .i64 m, .int .u8 s, .int .u8 ah, .int .u8 be] w fun e w' => e = .returned (.bool true) ∧ Ext w w' := by
  subst hS
  go_enter Tryd.func5, Tryd.ntmps5
  go_wp2_with fail
  refine (known_any _).mono ?_
  rintro e w1 ⟨rfl, x1⟩
  go_wp2_with fail
  rw [hi]
  refine (N1 _).mono ?_
  rintro e w2 ⟨rfl, x2⟩
  have hX := (x1.trans x2).alloc (.cells #[.int .i64 M, .int .i64 0] 23)
  have k1 : DecIn w2.heap.size M 0 (w2.alloc (.cells #[.int .i64 M, .int .i64 0] 23)) := heap_last _ _
  clear N1 hi
  obtain ⟨c0, c1⟩ := k1.cells
  go_wp2_with fail
  refine (P1 _).mono ?_
  rintro e w3 ⟨rfl, x3⟩
  replace hX := hX.trans x3
  replace k1 := k1.ext x3
  obtain ⟨c0, c1⟩ := k1.cells
  clear P1 x1 x2 x3
  go_wp2_with fail
  go_loopw [12, 13] (fun x y wr => ∃ (t : ByteArray) (k : Nat), x = .string t ∧ y = .int .i64 k ∧ k ≤ a ∧ t.size = 0 + k ∧ Hid (byL t = [] ++ List.replicate k 48) ∧ Ext w3 wr) (fun _ y _ => a - (intOf y).toNat)
  case atStart => exact ⟨_, 0, rfl, rfl, by omega, rfl, rfl, Ext.refl _⟩
  case round =>
    obtain ⟨t, k, rfl, rfl, hk, htz, htb, xr⟩ := hrel
    by_cases hka : k < a
    · have hlt : (k : Int) < ah % 9 := by omega
      have hz : (t ++ { data := #[48] }).size = t.size + 1 := ByteArray.size_append
      have HB : Hid (byL (t ++ { data := #[48] }) = [] ++ List.replicate (k + 1) 48) := Lib.hid (by rw [byL_append, htb.out, List.replicate_succ', List.append_assoc]; rfl)
      have HZ := Lib.hid hz
      clear hz
      go_wp2_with fail
      go_roundw
      case rel => exact ⟨_, k + 1, rfl, rfl, hka, by rw [HZ.out]; omega, HB, xr⟩
      case measure => simp only [intOf]; omega
    · have hka2 : k = a := by omega
      subst hka2
      have hlt : ¬ (k : Int) < ah % 9 := by omega
      obtain ⟨d0, d1⟩ := (k1.ext xr).cells
      have hz2 : (t ++ P).size ≤ 9 + P.size := by
        rw [ByteArray.size_append]
        skip
        omega
      have HB2 : Hid (byL (t ++ P) = [] ++ List.replicate k 48 ++ B) := Lib.hid (by
        rw [byL_append, htb.out]
        rw [hB.out]; rfl)
      have hb5 : be % 5 > 0 := by omega
      go_wp2_with fail
      clear hlt
      go_loopw [12, 14] (fun x y wq => ∃ (u : ByteArray) (j : Nat), x = .string u ∧ y = .int .i64 j ∧ j ≤ b ∧ u.size ≤ 10 + P.size + j ∧ Hid (byL u = [] ++ List.replicate k 48 ++ B ++ [46] ++ List.replicate j 48) ∧ Ext wr wq) (fun _ y _ => b - (intOf y).toNat)
      case atStart => exact ⟨_, 0, rfl, rfl, by omega, by rw [ByteArray.size_append]; have : ByteArray.size ⟨#[46]⟩ = 1 := rfl; omega, Lib.hid (by rw [byL_append, HB2.out]; simp; rfl), Ext.refl _⟩
      case round =>
        obtain ⟨u, j, rfl, rfl, hj, huz, hub, xq⟩ := hrel
        by_cases hjb : j < b
        · have hlt : (j : Int) < be % 5 := by omega
          have HZ : Hid ((u ++ { data := #[48] }).size = u.size + 1) := ByteArray.size_append
          have HB : Hid (byL (u ++ { data := #[48] }) = [] ++ List.replicate k 48 ++ B ++ [46] ++ List.replicate (j + 1) 48) := Lib.hid (by rw [byL_append, hub.out, List.replicate_succ', ← List.append_assoc]; rfl)
          go_wp2_with fail
          go_roundw
          case rel => exact ⟨_, j + 1, rfl, rfl, hjb, by rw [HZ.out]; omega, HB, xq⟩
          case measure => simp only [intOf]; omega
        · have hjb2 : j = b := by omega
          subst hjb2
          have hlt : ¬ (j : Int) < be % 5 := by omega
          have RR := R u (by omega) hub.out
          replace k1 := (k1.ext xr).ext xq
          replace hX := (hX.trans xr).trans xq
          clear R hub HB2 d0 d1 c0 c1 htb
          go_wp2_with fail
          refine (RR _).mono ?_
          rintro e w5 ⟨rfl, x5⟩
          replace hX := (hX.trans x5).alloc (.cells #[.int .i64 M, .int .i64 0] 23)
          replace k1 := (k1.ext x5).ext ((Ext.refl w5).alloc (.cells #[.int .i64 M, .int .i64 0] 23))
          have k2 : DecIn w5.heap.size M 0 (w5.alloc (.cells #[.int .i64 M, .int .i64 0] 23)) := heap_last _ _
          obtain ⟨c0, c1⟩ := k1.cells
          obtain ⟨d0, d1⟩ := k2.cells
          go_wp2_with fail
          go_ret
          exact ⟨retB (by simp), hX⟩

set_option maxHeartbeats 16000000 in
set_option maxRecDepth 100000 in
theorem DecForms_0p (m s ah be : Int) (i a b : Nat) (M S : Int) (P : ByteArray) (B : List Nat) (w : World) (hs : 0 ≤ s ∧ s ≤ 255) (hah : 0 ≤ ah ∧ ah ≤ 255) (hbe : 0 ≤ be ∧ be ≤ 255) (hi : s % 19 = (i : Int)) (ha : ah % 9 = (a : Int)) (hbb : be % 5 = (b : Int))
    (N1 : ∀ w, Calls Tryd.prog 11 #[.int .i64 m, .int .i64 i] w fun e w' => e = .returned (.tuple #[.agg #[.int .i64 M, .int .i64 S], .bool true]) ∧ Ext w w')
    (P1 : ∀ w, Calls Tryd.prog 15 #[.agg #[.int .i64 M, .int .i64 S]] w fun e w' => e = .returned (.string P) ∧ Ext w w')
    (hM : M ≥ 0) (hS : 0 < S) (hP : 0 < P.size) (hP2 : P.size ≤ 100) (hB : Hid (byL P = [] ++ B))
    (R : ∀ (T : ByteArray), T.size ≤ 900 → byL T = [] ++ List.replicate a 48 ++ B ++ [] ++ List.replicate b 48 → ∀ w, Calls Tryd.prog 9 #[.string T] w fun e w' => e = .returned (.tuple #[.agg #[.int .i64 M, .int .i64 S], .int .i64 0, .int .i64 0]) ∧ Ext w w') :
    Calls Tryd.prog 5 #[.int .i64 m, .int .u8 s, .int .u8 ah, .int .u8 be] w fun e w' => e = .returned (.bool true) ∧ Ext w w' := by
  skip
  go_enter Tryd.func5, Tryd.ntmps5
  go_wp2_with fail
  refine (known_any _).mono ?_
  rintro e w1 ⟨rfl, x1⟩
  go_wp2_with fail
  rw [hi]
  refine (N1 _).mono ?_
  rintro e w2 ⟨rfl, x2⟩
  have hX := (x1.trans x2).alloc (.cells #[.int .i64 M, .int .i64 S] 23)
  have k1 : DecIn w2.heap.size M S (w2.alloc (.cells #[.int .i64 M, .int .i64 S] 23)) := heap_last _ _
  clear N1 hi
  obtain ⟨c0, c1⟩ := k1.cells
  go_wp2_with fail
  refine (P1 _).mono ?_
  rintro e w3 ⟨rfl, x3⟩
  replace hX := hX.trans x3
  replace k1 := k1.ext x3
  obtain ⟨c0, c1⟩ := k1.cells
  clear P1 x1 x2 x3
  go_wp2_with fail
  go_loopw [12, 13] (fun x y wr => ∃ (t : ByteArray) (k : Nat), x = .string t ∧ y = .int .i64 k ∧ k ≤ a ∧ t.size = 0 + k ∧ Hid (byL t = [] ++ List.replicate k 48) ∧ Ext w3 wr) (fun _ y _ => a - (intOf y).toNat)
  case atStart => exact ⟨_, 0, rfl, rfl, by omega, rfl, rfl, Ext.refl _⟩
  case round =>
    obtain ⟨t, k, rfl, rfl, hk, htz, htb, xr⟩ := hrel
    by_cases hka : k < a
    · have hlt : (k : Int) < ah % 9 := by omega
      have hz : (t ++ { data := #[48] }).size = t.size + 1 := ByteArray.size_append
      have HB : Hid (byL (t ++ { data := #[48] }) = [] ++ List.replicate (k + 1) 48) := Lib.hid (by rw [byL_append, htb.out, List.replicate_succ', List.append_assoc]; rfl)
      have HZ := Lib.hid hz
      clear hz
      go_wp2_with fail
      go_roundw
      case rel => exact ⟨_, k + 1, rfl, rfl, hka, by rw [HZ.out]; omega, HB, xr⟩
      case measure => simp only [intOf]; omega
    · have hka2 : k = a := by omega
      subst hka2
      have hlt : ¬ (k : Int) < ah % 9 := by omega
      obtain ⟨d0, d1⟩ := (k1.ext xr).cells
      have hz2 : (t ++ P).size ≤ 9 + P.size := by
        rw [ByteArray.size_append]
        skip
        omega
      have HB2 : Hid (byL (t ++ P) = [] ++ List.replicate k 48 ++ B) := Lib.hid (by
        rw [byL_append, htb.out]
        rw [hB.out]; rfl)
      have hb5 : be % 5 ≥ 0 := by omega
      go_wp2_with fail
      clear hlt
      go_loopw [12, 14] (fun x y wq => ∃ (u : ByteArray) (j : Nat), x = .string u ∧ y = .int .i64 j ∧ j ≤ b ∧ u.size ≤ 10 + P.size + j ∧ Hid (byL u = [] ++ List.replicate k 48 ++ B ++ [] ++ List.replicate j 48) ∧ Ext wr wq) (fun _ y _ => b - (intOf y).toNat)
      case atStart => exact ⟨_, 0, rfl, rfl, by omega, by omega, Lib.hid (by rw [HB2.out]; simp), Ext.refl _⟩
      case round =>
        obtain ⟨u, j, rfl, rfl, hj, huz, hub, xq⟩ := hrel
        by_cases hjb : j < b
        · have hlt : (j : Int) < be % 5 := by omega
          have HZ : Hid ((u ++ { data := #[48] }).size = u.size + 1) := ByteArray.size_append
          have HB : Hid (byL (u ++ { data := #[48] }) = [] ++ List.replicate k 48 ++ B ++ [] ++ List.replicate (j + 1) 48) := Lib.hid (by rw [byL_append, hub.out, List.replicate_succ', ← List.append_assoc]; rfl)
          go_wp2_with fail
          go_roundw
          case rel => exact ⟨_, j + 1, rfl, rfl, hjb, by rw [HZ.out]; omega, HB, xq⟩
          case measure => simp only [intOf]; omega
        · have hjb2 : j = b := by omega
          subst hjb2
          have hlt : ¬ (j : Int) < be % 5 := by omega
          have RR := R u (by omega) hub.out
          replace k1 := (k1.ext xr).ext xq
          replace hX := (hX.trans xr).trans xq
          clear R hub HB2 d0 d1 c0 c1 htb
          go_wp2_with fail
          refine (RR _).mono ?_
          rintro e w5 ⟨rfl, x5⟩
          replace hX := (hX.trans x5).alloc (.cells #[.int .i64 M, .int .i64 S] 23)
          replace k1 := (k1.ext x5).ext ((Ext.refl w5).alloc (.cells #[.int .i64 M, .int .i64 S] 23))
          have k2 : DecIn w5.heap.size M S (w5.alloc (.cells #[.int .i64 M, .int .i64 S] 23)) := heap_last _ _
          obtain ⟨c0, c1⟩ := k1.cells
          obtain ⟨d0, d1⟩ := k2.cells
          go_wp2_with fail
          go_ret
          exact ⟨retB (by simp), hX⟩

set_option maxHeartbeats 16000000 in
set_option maxRecDepth 100000 in
theorem DecForms_1z0 (m s ah be : Int) (i a b : Nat) (M S : Int) (P : ByteArray) (B : List Nat) (w : World) (hs : 0 ≤ s ∧ s ≤ 255) (hah : 0 ≤ ah ∧ ah ≤ 255) (hbe : 0 ≤ be ∧ be ≤ 255) (hi : s % 19 = (i : Int)) (ha : ah % 9 = (a : Int)) (hbb : be % 5 = (b : Int))
    (N1 : ∀ w, Calls Tryd.prog 11 #[.int .i64 m, .int .i64 i] w fun e w' => e = .returned (.tuple #[.agg #[.int .i64 M, .int .i64 S], .bool true]) ∧ Ext w w')
    (P1 : ∀ w, Calls Tryd.prog 15 #[.agg #[.int .i64 M, .int .i64 S]] w fun e w' => e = .returned (.string P) ∧ Ext w w')
    (hM : M < 0) (hS : S = 0) (hb : ¬ 0 < b) (hP : 0 < P.size) (hP2 : P.size ≤ 100) (hB : Hid (byL P = [45] ++ B))
    (R : ∀ (T : ByteArray), T.size ≤ 900 → byL T = [45] ++ List.replicate a 48 ++ B ++ [] ++ List.replicate b 48 → ∀ w, Calls Tryd.prog 9 #[.string T] w fun e w' => e = .returned (.tuple #[.agg #[.int .i64 M, .int .i64 S], .int .i64 0, .int .i64 0]) ∧ Ext w w') :
    Calls Tryd.prog 5 #[.int .i64 m, .int .u8 s, .int .u8 ah, .int .u8 be] w fun e w' => e = .returned (.bool true) ∧ Ext w w' := by
  subst hS
  go_enter Tryd.func5, Tryd.ntmps5
  go_wp2_with fail
  refine (known_any _).mono ?_
  rintro e w1 ⟨rfl, x1⟩
  go_wp2_with fail
  rw [hi]
  refine (N1 _).mono ?_
  rintro e w2 ⟨rfl, x2⟩
  have hX := (x1.trans x2).alloc (.cells #[.int .i64 M, .int .i64 0] 23)
  have k1 : DecIn w2.heap.size M 0 (w2.alloc (.cells #[.int .i64 M, .int .i64 0] 23)) := heap_last _ _
  clear N1 hi
  obtain ⟨c0, c1⟩ := k1.cells
  go_wp2_with fail
  refine (P1 _).mono ?_
  rintro e w3 ⟨rfl, x3⟩
  replace hX := hX.trans x3
  replace k1 := k1.ext x3
  obtain ⟨c0, c1⟩ := k1.cells
  clear P1 x1 x2 x3
  go_wp2_with fail
  have e5 : (min 1 (P.size : Int)).toNat = 1 := by omega
  go_region
  go_wp2_with fail
  go_loopw [12, 13] (fun x y wr => ∃ (t : ByteArray) (k : Nat), x = .string t ∧ y = .int .i64 k ∧ k ≤ a ∧ t.size = 1 + k ∧ Hid (byL t = [45] ++ List.replicate k 48) ∧ Ext w3 wr) (fun _ y _ => a - (intOf y).toNat)
  case atStart => exact ⟨_, 0, rfl, rfl, by omega, rfl, rfl, (Ext.refl _).drew⟩
  case round =>
    obtain ⟨t, k, rfl, rfl, hk, htz, htb, xr⟩ := hrel
    by_cases hka : k < a
    · have hlt : (k : Int) < ah % 9 := by omega
      have hz : (t ++ { data := #[48] }).size = t.size + 1 := ByteArray.size_append
      have HB : Hid (byL (t ++ { data := #[48] }) = [45] ++ List.replicate (k + 1) 48) := Lib.hid (by rw [byL_append, htb.out, List.replicate_succ', List.append_assoc]; rfl)
      have HZ := Lib.hid hz
      clear hz
      go_wp2_with fail
      go_roundw
      case rel => exact ⟨_, k + 1, rfl, rfl, hka, by rw [HZ.out]; omega, HB, xr⟩
      case measure => simp only [intOf]; omega
    · have hka2 : k = a := by omega
      subst hka2
      have hlt : ¬ (k : Int) < ah % 9 := by omega
      obtain ⟨d0, d1⟩ := (k1.ext xr).cells
      have hz2 : (t ++ P.extract 1 P.size).size ≤ 9 + P.size := by
        rw [ByteArray.size_append]
        have : (P.extract 1 P.size).size ≤ P.size := by rw [ByteArray.size_extract]; omega
        omega
      have HB2 : Hid (byL (t ++ P.extract 1 P.size) = [45] ++ List.replicate k 48 ++ B) := Lib.hid (by
        rw [byL_append, htb.out]
        congr 1; rw [byL_extract, hB.out]; exact List.take_of_length_le (by have := congrArg List.length hB.out; rw [byL_length] at this; simp at this ⊢; omega))
      have hb5 : ¬ be % 5 > 0 := by omega
      go_wp2_with fail
      clear hlt
      go_loopw [12, 14] (fun x y wq => ∃ (u : ByteArray) (j : Nat), x = .string u ∧ y = .int .i64 j ∧ j ≤ b ∧ u.size ≤ 10 + P.size + j ∧ Hid (byL u = [45] ++ List.replicate k 48 ++ B ++ [] ++ List.replicate j 48) ∧ Ext wr wq) (fun _ y _ => b - (intOf y).toNat)
      case atStart => exact ⟨_, 0, rfl, rfl, by omega, by omega, Lib.hid (by rw [HB2.out]; simp), Ext.refl _⟩
      case round =>
        obtain ⟨u, j, rfl, rfl, hj, huz, hub, xq⟩ := hrel
        by_cases hjb : j < b
        · exfalso; omega
        · have hjb2 : j = b := by omega
          subst hjb2
          have hlt : ¬ (j : Int) < be % 5 := by omega
          have RR := R u (by omega) hub.out
          replace k1 := (k1.ext xr).ext xq
          replace hX := (hX.trans xr).trans xq
          clear R hub HB2 d0 d1 c0 c1 htb
          go_wp2_with fail
          refine (RR _).mono ?_
          rintro e w5 ⟨rfl, x5⟩
          replace hX := (hX.trans x5).alloc (.cells #[.int .i64 M, .int .i64 0] 23)
          replace k1 := (k1.ext x5).ext ((Ext.refl w5).alloc (.cells #[.int .i64 M, .int .i64 0] 23))
          have k2 : DecIn w5.heap.size M 0 (w5.alloc (.cells #[.int .i64 M, .int .i64 0] 23)) := heap_last _ _
          obtain ⟨c0, c1⟩ := k1.cells
          obtain ⟨d0, d1⟩ := k2.cells
          go_wp2_with fail
          go_ret
          exact ⟨retB (by simp), hX⟩

set_option maxHeartbeats 16000000 in
set_option maxRecDepth 100000 in
theorem DecForms_1zb (m s ah be : Int) (i a b : Nat) (M S : Int) (P : ByteArray) (B : List Nat) (w : World) (hs : 0 ≤ s ∧ s ≤ 255) (hah : 0 ≤ ah ∧ ah ≤ 255) (hbe : 0 ≤ be ∧ be ≤ 255) (hi : s % 19 = (i : Int)) (ha : ah % 9 = (a : Int)) (hbb : be % 5 = (b : Int))
    (N1 : ∀ w, Calls Tryd.prog 11 #[.int .i64 m, .int .i64 i] w fun e w' => e = .returned (.tuple #[.agg #[.int .i64 M, .int .i64 S], .bool true]) ∧ Ext w w')
    (P1 : ∀ w, Calls Tryd.prog 15 #[.agg #[.int .i64 M, .int .i64 S]] w fun e w' => e = .returned (.string P) ∧ Ext w w')
    (hM : M < 0) (hS : S = 0) (hb : 0 < b) (hP : 0 < P.size) (hP2 : P.size ≤ 100) (hB : Hid (byL P = [45] ++ B))
    (R : ∀ (T : ByteArray), T.size ≤ 900 → byL T = [45] ++ List.replicate a 48 ++ B ++ [46] ++ List.replicate b 48 → ∀ w, Calls Tryd.prog 9 #[.string T] w fun e w' => e = .returned (.tuple #[.agg #[.int .i64 M, .int .i64 S], .int .i64 0, .int .i64 0]) ∧ Ext w w') :
    Calls Tryd.prog 5 #[.int .i64 m, .int .u8 s, .int .u8 ah, .int .u8 be] w fun e w' => e = .returned (.bool true) ∧ Ext w w' := by
  subst hS
  go_enter Tryd.func5, Tryd.ntmps5
  go_wp2_with fail
  refine (known_any _).mono ?_
  rintro e w1 ⟨rfl, x1⟩
  go_wp2_with fail
  rw [hi]
  refine (N1 _).mono ?_
  rintro e w2 ⟨rfl, x2⟩
  have hX := (x1.trans x2).alloc (.cells #[.int .i64 M, .int .i64 0] 23)
  have k1 : DecIn w2.heap.size M 0 (w2.alloc (.cells #[.int .i64 M, .int .i64 0] 23)) := heap_last _ _
  clear N1 hi
  obtain ⟨c0, c1⟩ := k1.cells
  go_wp2_with fail
  refine (P1 _).mono ?_
  rintro e w3 ⟨rfl, x3⟩
  replace hX := hX.trans x3
  replace k1 := k1.ext x3
  obtain ⟨c0, c1⟩ := k1.cells
  clear P1 x1 x2 x3
  go_wp2_with fail
  have e5 : (min 1 (P.size : Int)).toNat = 1 := by omega
  go_region
  go_wp2_with fail
  go_loopw [12, 13] (fun x y wr => ∃ (t : ByteArray) (k : Nat), x = .string t ∧ y = .int .i64 k ∧ k ≤ a ∧ t.size = 1 + k ∧ Hid (byL t = [45] ++ List.replicate k 48) ∧ Ext w3 wr) (fun _ y _ => a - (intOf y).toNat)
  case atStart => exact ⟨_, 0, rfl, rfl, by omega, rfl, rfl, (Ext.refl _).drew⟩
  case round =>
    obtain ⟨t, k, rfl, rfl, hk, htz, htb, xr⟩ := hrel
    by_cases hka : k < a
    · have hlt : (k : Int) < ah % 9 := by omega
      have hz : (t ++ { data := #[48] }).size = t.size + 1 := ByteArray.size_append
      have HB : Hid (byL (t ++ { data := #[48] }) = [45] ++ List.replicate (k + 1) 48) := Lib.hid (by rw [byL_append, htb.out, List.replicate_succ', List.append_assoc]; rfl)
      have HZ := Lib.hid hz
      clear hz
      go_wp2_with fail
      go_roundw
      case rel => exact ⟨_, k + 1, rfl, rfl, hka, by rw [HZ.out]; omega, HB, xr⟩
      case measure => simp only [intOf]; omega
    · have hka2 : k = a := by omega
      subst hka2
      have hlt : ¬ (k : Int) < ah % 9 := by omega
      obtain ⟨d0, d1⟩ := (k1.ext xr).cells
      have hz2 : (t ++ P.extract 1 P.size).size ≤ 9 + P.size := by
        rw [ByteArray.size_append]
        have : (P.extract 1 P.size).size ≤ P.size := by rw [ByteArray.size_extract]; omega
        omega
      have HB2 : Hid (byL (t ++ P.extract 1 P.size) = [45] ++ List.replicate k 48 ++ B) := Lib.hid (by
        rw [byL_append, htb.out]
        congr 1; rw [byL_extract, hB.out]; exact List.take_of_length_le (by have := congrArg List.length hB.out; rw [byL_length] at this; simp at this ⊢; omega))
      have hb5 : be % 5 > 0 := by omega
      go_wp2_with fail
      clear hlt
      go_loopw [12, 14] (fun x y wq => ∃ (u : ByteArray) (j : Nat), x = .string u ∧ y = .int .i64 j ∧ j ≤ b ∧ u.size ≤ 10 + P.size + j ∧ Hid (byL u = [45] ++ List.replicate k 48 ++ B ++ [46] ++ List.replicate j 48) ∧ Ext wr wq) (fun _ y _ => b - (intOf y).toNat)
      case atStart => exact ⟨_, 0, rfl, rfl, by omega, by rw [ByteArray.size_append]; have : ByteArray.size ⟨#[46]⟩ = 1 := rfl; omega, Lib.hid (by rw [byL_append, HB2.out]; simp; rfl), Ext.refl _⟩
      case round =>
        obtain ⟨u, j, rfl, rfl, hj, huz, hub, xq⟩ := hrel
        by_cases hjb : j < b
        · have hlt : (j : Int) < be % 5 := by omega
          have HZ : Hid ((u ++ { data := #[48] }).size = u.size + 1) := ByteArray.size_append
          have HB : Hid (byL (u ++ { data := #[48] }) = [45] ++ List.replicate k 48 ++ B ++ [46] ++ List.replicate (j + 1) 48) := Lib.hid (by rw [byL_append, hub.out, List.replicate_succ', ← List.append_assoc]; rfl)
          go_wp2_with fail
          go_roundw
          case rel => exact ⟨_, j + 1, rfl, rfl, hjb, by rw [HZ.out]; omega, HB, xq⟩
          case measure => simp only [intOf]; omega
        · have hjb2 : j = b := by omega
          subst hjb2
          have hlt : ¬ (j : Int) < be % 5 := by omega
          have RR := R u (by omega) hub.out
          replace k1 := (k1.ext xr).ext xq
          replace hX := (hX.trans xr).trans xq
          clear R hub HB2 d0 d1 c0 c1 htb
          go_wp2_with fail
          refine (RR _).mono ?_
          rintro e w5 ⟨rfl, x5⟩
          replace hX := (hX.trans x5).alloc (.cells #[.int .i64 M, .int .i64 0] 23)
          replace k1 := (k1.ext x5).ext ((Ext.refl w5).alloc (.cells #[.int .i64 M, .int .i64 0] 23))
          have k2 : DecIn w5.heap.size M 0 (w5.alloc (.cells #[.int .i64 M, .int .i64 0] 23)) := heap_last _ _
          obtain ⟨c0, c1⟩ := k1.cells
          obtain ⟨d0, d1⟩ := k2.cells
          go_wp2_with fail
          go_ret
          exact ⟨retB (by simp), hX⟩

set_option maxHeartbeats 16000000 in
set_option maxRecDepth 100000 in
theorem DecForms_1p (m s ah be : Int) (i a b : Nat) (M S : Int) (P : ByteArray) (B : List Nat) (w : World) (hs : 0 ≤ s ∧ s ≤ 255) (hah : 0 ≤ ah ∧ ah ≤ 255) (hbe : 0 ≤ be ∧ be ≤ 255) (hi : s % 19 = (i : Int)) (ha : ah % 9 = (a : Int)) (hbb : be % 5 = (b : Int))
    (N1 : ∀ w, Calls Tryd.prog 11 #[.int .i64 m, .int .i64 i] w fun e w' => e = .returned (.tuple #[.agg #[.int .i64 M, .int .i64 S], .bool true]) ∧ Ext w w')
    (P1 : ∀ w, Calls Tryd.prog 15 #[.agg #[.int .i64 M, .int .i64 S]] w fun e w' => e = .returned (.string P) ∧ Ext w w')
    (hM : M < 0) (hS : 0 < S) (hP : 0 < P.size) (hP2 : P.size ≤ 100) (hB : Hid (byL P = [45] ++ B))
    (R : ∀ (T : ByteArray), T.size ≤ 900 → byL T = [45] ++ List.replicate a 48 ++ B ++ [] ++ List.replicate b 48 → ∀ w, Calls Tryd.prog 9 #[.string T] w fun e w' => e = .returned (.tuple #[.agg #[.int .i64 M, .int .i64 S], .int .i64 0, .int .i64 0]) ∧ Ext w w') :
    Calls Tryd.prog 5 #[.int .i64 m, .int .u8 s, .int .u8 ah, .int .u8 be] w fun e w' => e = .returned (.bool true) ∧ Ext w w' := by
  skip
  go_enter Tryd.func5, Tryd.ntmps5
  go_wp2_with fail
  refine (known_any _).mono ?_
  rintro e w1 ⟨rfl, x1⟩
  go_wp2_with fail
  rw [hi]
  refine (N1 _).mono ?_
  rintro e w2 ⟨rfl, x2⟩
  have hX := (x1.trans x2).alloc (.cells #[.int .i64 M, .int .i64 S] 23)
  have k1 : DecIn w2.heap.size M S (w2.alloc (.cells #[.int .i64 M, .int .i64 S] 23)) := heap_last _ _
  clear N1 hi
  obtain ⟨c0, c1⟩ := k1.cells
  go_wp2_with fail
  refine (P1 _).mono ?_
  rintro e w3 ⟨rfl, x3⟩
  replace hX := hX.trans x3
  replace k1 := k1.ext x3
  obtain ⟨c0, c1⟩ := k1.cells
  clear P1 x1 x2 x3
  go_wp2_with fail
  have e5 : (min 1 (P.size : Int)).toNat = 1 := by omega
  go_region
  go_wp2_with fail
  go_loopw [12, 13] (fun x y wr => ∃ (t : ByteArray) (k : Nat), x = .string t ∧ y = .int .i64 k ∧ k ≤ a ∧ t.size = 1 + k ∧ Hid (byL t = [45] ++ List.replicate k 48) ∧ Ext w3 wr) (fun _ y _ => a - (intOf y).toNat)
  case atStart => exact ⟨_, 0, rfl, rfl, by omega, rfl, rfl, (Ext.refl _).drew⟩
  case round =>
    obtain ⟨t, k, rfl, rfl, hk, htz, htb, xr⟩ := hrel
    by_cases hka : k < a
    · have hlt : (k : Int) < ah % 9 := by omega
      have hz : (t ++ { data := #[48] }).size = t.size + 1 := ByteArray.size_append
      have HB : Hid (byL (t ++ { data := #[48] }) = [45] ++ List.replicate (k + 1) 48) := Lib.hid (by rw [byL_append, htb.out, List.replicate_succ', List.append_assoc]; rfl)
      have HZ := Lib.hid hz
      clear hz
      go_wp2_with fail
      go_roundw
      case rel => exact ⟨_, k + 1, rfl, rfl, hka, by rw [HZ.out]; omega, HB, xr⟩
      case measure => simp only [intOf]; omega
    · have hka2 : k = a := by omega
      subst hka2
      have hlt : ¬ (k : Int) < ah % 9 := by omega
      obtain ⟨d0, d1⟩ := (k1.ext xr).cells
      have hz2 : (t ++ P.extract 1 P.size).size ≤ 9 + P.size := by
        rw [ByteArray.size_append]
        have : (P.extract 1 P.size).size ≤ P.size := by rw [ByteArray.size_extract]; omega
        omega
      have HB2 : Hid (byL (t ++ P.extract 1 P.size) = [45] ++ List.replicate k 48 ++ B) := Lib.hid (by
        rw [byL_append, htb.out]
        congr 1; rw [byL_extract, hB.out]; exact List.take_of_length_le (by have := congrArg List.length hB.out; rw [byL_length] at this; simp at this ⊢; omega))
      have hb5 : be % 5 ≥ 0 := by omega
      go_wp2_with fail
      clear hlt
      go_loopw [12, 14] (fun x y wq => ∃ (u : ByteArray) (j : Nat), x = .string u ∧ y = .int .i64 j ∧ j ≤ b ∧ u.size ≤ 10 + P.size + j ∧ Hid (byL u = [45] ++ List.replicate k 48 ++ B ++ [] ++ List.replicate j 48) ∧ Ext wr wq) (fun _ y _ => b - (intOf y).toNat)
      case atStart => exact ⟨_, 0, rfl, rfl, by omega, by omega, Lib.hid (by rw [HB2.out]; simp), Ext.refl _⟩
      case round =>
        obtain ⟨u, j, rfl, rfl, hj, huz, hub, xq⟩ := hrel
        by_cases hjb : j < b
        · have hlt : (j : Int) < be % 5 := by omega
          have HZ : Hid ((u ++ { data := #[48] }).size = u.size + 1) := ByteArray.size_append
          have HB : Hid (byL (u ++ { data := #[48] }) = [45] ++ List.replicate k 48 ++ B ++ [] ++ List.replicate (j + 1) 48) := Lib.hid (by rw [byL_append, hub.out, List.replicate_succ', ← List.append_assoc]; rfl)
          go_wp2_with fail
          go_roundw
          case rel => exact ⟨_, j + 1, rfl, rfl, hjb, by rw [HZ.out]; omega, HB, xq⟩
          case measure => simp only [intOf]; omega
        · have hjb2 : j = b := by omega
          subst hjb2
          have hlt : ¬ (j : Int) < be % 5 := by omega
          have RR := R u (by omega) hub.out
          replace k1 := (k1.ext xr).ext xq
          replace hX := (hX.trans xr).trans xq
          clear R hub HB2 d0 d1 c0 c1 htb
          go_wp2_with fail
          refine (RR _).mono ?_
          rintro e w5 ⟨rfl, x5⟩
          replace hX := (hX.trans x5).alloc (.cells #[.int .i64 M, .int .i64 S] 23)
          replace k1 := (k1.ext x5).ext ((Ext.refl w5).alloc (.cells #[.int .i64 M, .int .i64 S] 23))
          have k2 : DecIn w5.heap.size M S (w5.alloc (.cells #[.int .i64 M, .int .i64 S] 23)) := heap_last _ _
          obtain ⟨c0, c1⟩ := k1.cells
          obtain ⟨d0, d1⟩ := k2.cells
          go_wp2_with fail
          go_ret
          exact ⟨retB (by simp), hX⟩

theorem DecForms_main (m s ah be : Int) (w : World) (hm : I64 m) (hs : 0 ≤ s ∧ s ≤ 255) (hah : 0 ≤ ah ∧ ah ≤ 255) (hbe : 0 ≤ be ∧ be ≤ 255) :
    Calls Tryd.prog 5 #[.int .i64 m, .int .u8 s, .int .u8 ah, .int .u8 be] w fun e w' => e = .returned (.bool true) ∧ Ext w w' := by
  obtain ⟨i, hi⟩ : ∃ i : Nat, s % 19 = (i : Int) := ⟨(s % 19).toNat, by omega⟩
  obtain ⟨a, ha⟩ : ∃ a : Nat, ah % 9 = (a : Int) := ⟨(ah % 9).toNat, by omega⟩
  obtain ⟨b, hb⟩ : ∃ b : Nat, be % 5 = (b : Int) := ⟨(be % 5).toNat, by omega⟩
  have hi18 : i ≤ 18 := by omega
  have N1 := fun w => DNorm_any m i w hm (by omega)
  have n1 := canZ_no (m := m) hi18 hm
  obtain ⟨g1, i1⟩ := canZ_is_good m i
  cases hx : (canZ m i).2 with
  | false =>
    rw [hx] at N1
    exact DecForms_no m s ah be i _ _ w hs hi N1 (n1 hx)
  | true =>
    rw [hx] at N1
    obtain ⟨⟨a0, a1⟩, _⟩ := good_of g1
    have P1 := fun w => Print_any (canZ m i).1.1 (canZ m i).1.2 w i1 (by unfold I64; omega)
    have hl := strN_len (canZ m i).1.1 (canZ m i).1.2
    have hl1 := printL_len g1 i1
    have hl2 := printL_pos g1
    have hB : byL (strN (printL (canZ m i).1.1 (canZ m i).1.2)) = (if (canZ m i).1.1 < 0 then [45] else []) ++ bodyL (canZ m i).1.1 (canZ m i).1.2 := by
      rw [byL_strN _ (print_bytes _ _), print_is g1]; rfl
    have R := fun (T : ByteArray) (hT : T.size ≤ 900) h => ParseIs.of (s := T) (by omega) (forms_is g1 i1 a b T h)
    clear N1
    have N1 := fun w => DNorm_any m i w hm (by omega)
    rw [hx] at N1
    generalize (canZ m i).1.1 = M at *
    generalize (canZ m i).1.2 = S at *
    generalize strN (printL M S) = P at *
    clear hx n1 g1
    by_cases hM : M < 0
    · simp only [if_pos hM] at hB R
      by_cases hS : S = 0
      · by_cases h0 : 0 < b
        · rw [if_pos ⟨hS, h0⟩] at R
          exact DecForms_1zb m s ah be i a b M S P _ w hs hah hbe hi ha hb N1 P1 hM hS h0 (by omega) (by omega) (Lib.hid hB) R
        · rw [if_neg (fun h => h0 h.2)] at R
          exact DecForms_1z0 m s ah be i a b M S P _ w hs hah hbe hi ha hb N1 P1 hM hS h0 (by omega) (by omega) (Lib.hid hB) R
      · rw [if_neg (fun h => hS h.1)] at R
        exact DecForms_1p m s ah be i a b M S P _ w hs hah hbe hi ha hb N1 P1 hM (by omega) (by omega) (by omega) (Lib.hid hB) R
    · simp only [if_neg hM] at hB R
      by_cases hS : S = 0
      · by_cases h0 : 0 < b
        · rw [if_pos ⟨hS, h0⟩] at R
          exact DecForms_0zb m s ah be i a b M S P _ w hs hah hbe hi ha hb N1 P1 (by omega) hS h0 (by omega) (by omega) (Lib.hid hB) R
        · rw [if_neg (fun h => h0 h.2)] at R
          exact DecForms_0z0 m s ah be i a b M S P _ w hs hah hbe hi ha hb N1 P1 (by omega) hS h0 (by omega) (by omega) (Lib.hid hB) R
      · rw [if_neg (fun h => hS h.1)] at R
        exact DecForms_0p m s ah be i a b M S P _ w hs hah hbe hi ha hb N1 P1 (by omega) (by omega) (by omega) (by omega) (Lib.hid hB) R

end Go.Proofs.YtiancppdcfahaaaDoor
