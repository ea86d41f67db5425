/- The law DecBounds answers true: the walk (alias Tryd; printed by tools/mkdcb.py). -/
import Derived.Test.YtiancppdcfahaaaDoorDcK
namespace Go.Proofs.YtiancppdcfahaaaDoor
open Go.RowKit

def bigS : ByteArray := { data := #[57, 50, 50, 51, 51, 55, 50, 48, 51, 54, 56, 53, 52, 55, 55, 53, 56, 48, 55] }
def moreS : ByteArray := { data := #[57, 50, 50, 51, 51, 55, 50, 48, 51, 54, 56, 53, 52, 55, 55, 53, 56, 48, 56] }
def cutS (sg X : ByteArray) (n : Nat) : ByteArray := if n = 0 then sg ++ X.extract 0 19 else sg ++ X.extract 0 (19 - n) ++ { data := #[46] } ++ X.extract (19 - n) 19
theorem big_pos : ∀ n, n < 19 → parseV (cutS { data := #[] } bigS n) = ((9223372036854775807, (n : Int)), 0, 0) := by decide +kernel
theorem big_neg : ∀ n, n < 19 → parseV (cutS { data := #[45] } bigS n) = ((-9223372036854775807, (n : Int)), 0, 0) := by decide +kernel
theorem more_pos : ∀ n, n < 19 → parseV (cutS { data := #[] } moreS n) = ((0, 0), 12, 0) := by decide +kernel
theorem more_neg : ∀ n, n < 19 → parseV (cutS { data := #[45] } moreS n) = ((0, 0), 12, 0) := by decide +kernel
theorem cut_size : ∀ n, n < 19 → (cutS { data := #[] } bigS n).size ≤ 20 ∧ (cutS { data := #[] } moreS n).size ≤ 20 ∧ (cutS { data := #[45] } bigS n).size ≤ 21 ∧ (cutS { data := #[45] } moreS n).size ≤ 21 := by decide +kernel

set_option maxHeartbeats 16000000 in
set_option maxRecDepth 100000 in
theorem DecBounds_pos_0 (k : Int) (n : Nat) (w : World) (hk : 0 ≤ k ∧ k ≤ 255) (hn : k % 19 = (n : Int)) (hn0 : n = 0) :
    Calls Tryd.prog 7 #[.int .u8 k, .bool false] w fun e w' => e = .returned (.bool true) ∧ Ext w w' := by
  have hn19 : n < 19 := by omega
  have eA : cutS { data := #[] } bigS n = ({ data := #[] } ++ ByteArray.extract { data := #[57, 50, 50, 51, 51, 55, 50, 48, 51, 54, 56, 53, 52, 55, 55, 53, 56, 48, 55] } 0 19 : ByteArray) := if_pos hn0
  have A := ParseIs.of (s := cutS { data := #[] } bigS n) (by have := (cut_size n hn19).1; omega) (big_pos n hn19)
  rw [eA] at A
  clear eA
  have eB : cutS { data := #[] } moreS n = ({ data := #[] } ++ ByteArray.extract { data := #[57, 50, 50, 51, 51, 55, 50, 48, 51, 54, 56, 53, 52, 55, 55, 53, 56, 48, 56] } 0 19 : ByteArray) := if_pos hn0
  have B := ParseIs.of (s := cutS { data := #[] } moreS n) (by have := (cut_size n hn19).2.1; omega) (more_pos n hn19)
  rw [eB] at B
  clear eB
  have T1 := ParseIs.of (s := { data := #[] } ++ { data := #[48, 46, 48, 48, 48, 48, 48, 48, 48, 48, 48, 48, 48, 48, 48, 48, 48, 48, 48, 49] }) (by decide +kernel) (M := 1) (S := 18) (e := 0) (at_ := 0) (by decide +kernel)
  have T2 := ParseIs.of (s := { data := #[] } ++ { data := #[48, 46, 48, 48, 48, 48, 48, 48, 48, 48, 48, 48, 48, 48, 48, 48, 48, 48, 48, 48, 49] }) (by decide +kernel) (M := 0) (S := 0) (e := 12) (at_ := 0) (by decide +kernel)
  have T3 := ParseIs.of (s := { data := #[] } ++ { data := #[48, 46, 48, 48, 48, 48, 48, 48, 48, 48, 48, 48, 48, 48, 48, 48, 48, 48, 48, 49, 48] }) (by decide +kernel) (M := 1) (S := 18) (e := 0) (at_ := 0) (by decide +kernel)
  subst hn0
  go_enter Tryd.func7, Tryd.ntmps7
  go_wp2_with fail
  refine (known_any _).mono ?_
  rintro e w1 ⟨rfl, x1⟩
  go_upto_region 5 with fail
  rw [hn]
  go_wp2_with fail
  refine (A _).mono ?_
  rintro e w2 ⟨rfl, x2⟩
  have hx := (x1.trans x2).alloc (.cells #[.int .i64 9223372036854775807, .int .i64 ((0 : Nat) : Int)] 23)
  have k1 : DecIn w2.heap.size 9223372036854775807 ((0 : Nat) : Int) (w2.alloc (.cells #[.int .i64 9223372036854775807, .int .i64 ((0 : Nat) : Int)] 23)) := heap_last _ _
  go_wp2_with fail
  refine (B _).mono ?_
  rintro e w3 ⟨rfl, x3⟩
  replace hx := (hx.trans x3).alloc (.cells #[.int .i64 0, .int .i64 0] 23)
  replace k1 := (k1.ext x3).ext ((Ext.refl w3).alloc (.cells #[.int .i64 0, .int .i64 0] 23))
  go_wp2_with fail
  refine (T1 _).mono ?_
  rintro e w4 ⟨rfl, x4⟩
  replace hx := (hx.trans x4).alloc (.cells #[.int .i64 1, .int .i64 18] 23)
  replace k1 := (k1.ext x4).ext ((Ext.refl w4).alloc (.cells #[.int .i64 1, .int .i64 18] 23))
  have k2 : DecIn w4.heap.size 1 18 (w4.alloc (.cells #[.int .i64 1, .int .i64 18] 23)) := heap_last _ _
  go_wp2_with fail
  refine (T2 _).mono ?_
  rintro e w5 ⟨rfl, x5⟩
  replace hx := (hx.trans x5).alloc (.cells #[.int .i64 0, .int .i64 0] 23)
  replace k1 := (k1.ext x5).ext ((Ext.refl w5).alloc (.cells #[.int .i64 0, .int .i64 0] 23))
  replace k2 := (k2.ext x5).ext ((Ext.refl w5).alloc (.cells #[.int .i64 0, .int .i64 0] 23))
  go_wp2_with fail
  refine (T3 _).mono ?_
  rintro e w6 ⟨rfl, x6⟩
  replace hx := (hx.trans x6).alloc (.cells #[.int .i64 1, .int .i64 18] 23)
  replace k1 := (k1.ext x6).ext ((Ext.refl w6).alloc (.cells #[.int .i64 1, .int .i64 18] 23))
  replace k2 := (k2.ext x6).ext ((Ext.refl w6).alloc (.cells #[.int .i64 1, .int .i64 18] 23))
  obtain ⟨c0, c1⟩ := k1.cells
  obtain ⟨d0, d1⟩ := k2.cells
  go_wp2_with fail
  go_ret
  exact ⟨retB (by simp), hx⟩

set_option maxHeartbeats 16000000 in
set_option maxRecDepth 100000 in
theorem DecBounds_pos_n (k : Int) (n : Nat) (w : World) (hk : 0 ≤ k ∧ k ≤ 255) (hn : k % 19 = (n : Int)) (hn0 : n ≠ 0) :
    Calls Tryd.prog 7 #[.int .u8 k, .bool false] w fun e w' => e = .returned (.bool true) ∧ Ext w w' := by
  have hn19 : n < 19 := by omega
  have eA : cutS { data := #[] } bigS n = ({ data := #[] } ++ ByteArray.extract { data := #[57, 50, 50, 51, 51, 55, 50, 48, 51, 54, 56, 53, 52, 55, 55, 53, 56, 48, 55] } 0 (19 - n) ++ { data := #[46] } ++ ByteArray.extract { data := #[57, 50, 50, 51, 51, 55, 50, 48, 51, 54, 56, 53, 52, 55, 55, 53, 56, 48, 55] } (19 - n) 19 : ByteArray) := if_neg hn0
  have A := ParseIs.of (s := cutS { data := #[] } bigS n) (by have := (cut_size n hn19).1; omega) (big_pos n hn19)
  rw [eA] at A
  clear eA
  have eB : cutS { data := #[] } moreS n = ({ data := #[] } ++ ByteArray.extract { data := #[57, 50, 50, 51, 51, 55, 50, 48, 51, 54, 56, 53, 52, 55, 55, 53, 56, 48, 56] } 0 (19 - n) ++ { data := #[46] } ++ ByteArray.extract { data := #[57, 50, 50, 51, 51, 55, 50, 48, 51, 54, 56, 53, 52, 55, 55, 53, 56, 48, 56] } (19 - n) 19 : ByteArray) := if_neg hn0
  have B := ParseIs.of (s := cutS { data := #[] } moreS n) (by have := (cut_size n hn19).2.1; omega) (more_pos n hn19)
  rw [eB] at B
  clear eB
  have T1 := ParseIs.of (s := { data := #[] } ++ { data := #[48, 46, 48, 48, 48, 48, 48, 48, 48, 48, 48, 48, 48, 48, 48, 48, 48, 48, 48, 49] }) (by decide +kernel) (M := 1) (S := 18) (e := 0) (at_ := 0) (by decide +kernel)
  have T2 := ParseIs.of (s := { data := #[] } ++ { data := #[48, 46, 48, 48, 48, 48, 48, 48, 48, 48, 48, 48, 48, 48, 48, 48, 48, 48, 48, 48, 49] }) (by decide +kernel) (M := 0) (S := 0) (e := 12) (at_ := 0) (by decide +kernel)
  have T3 := ParseIs.of (s := { data := #[] } ++ { data := #[48, 46, 48, 48, 48, 48, 48, 48, 48, 48, 48, 48, 48, 48, 48, 48, 48, 48, 48, 49, 48] }) (by decide +kernel) (M := 1) (S := 18) (e := 0) (at_ := 0) (by decide +kernel)
  have e4 : ((19 : Int) - (n : Int)).toNat = 19 - n := by omega
  go_enter Tryd.func7, Tryd.ntmps7
  go_wp2_with fail
  refine (known_any _).mono ?_
  rintro e w1 ⟨rfl, x1⟩
  go_upto_region 5 with fail
  rw [hn]
  go_wp2_with fail
  go_quiet (fail)
  go_wp2_with fail
  refine (A _).mono ?_
  rintro e w2 ⟨rfl, x2⟩
  have hx := ((x1.drewN _).trans x2).alloc (.cells #[.int .i64 9223372036854775807, .int .i64 n] 23)
  have k1 : DecIn w2.heap.size 9223372036854775807 n (w2.alloc (.cells #[.int .i64 9223372036854775807, .int .i64 n] 23)) := heap_last _ _
  go_wp2_with fail
  refine (B _).mono ?_
  rintro e w3 ⟨rfl, x3⟩
  replace hx := (hx.trans x3).alloc (.cells #[.int .i64 0, .int .i64 0] 23)
  replace k1 := (k1.ext x3).ext ((Ext.refl w3).alloc (.cells #[.int .i64 0, .int .i64 0] 23))
  go_wp2_with fail
  refine (T1 _).mono ?_
  rintro e w4 ⟨rfl, x4⟩
  replace hx := (hx.trans x4).alloc (.cells #[.int .i64 1, .int .i64 18] 23)
  replace k1 := (k1.ext x4).ext ((Ext.refl w4).alloc (.cells #[.int .i64 1, .int .i64 18] 23))
  have k2 : DecIn w4.heap.size 1 18 (w4.alloc (.cells #[.int .i64 1, .int .i64 18] 23)) := heap_last _ _
  go_wp2_with fail
  refine (T2 _).mono ?_
  rintro e w5 ⟨rfl, x5⟩
  replace hx := (hx.trans x5).alloc (.cells #[.int .i64 0, .int .i64 0] 23)
  replace k1 := (k1.ext x5).ext ((Ext.refl w5).alloc (.cells #[.int .i64 0, .int .i64 0] 23))
  replace k2 := (k2.ext x5).ext ((Ext.refl w5).alloc (.cells #[.int .i64 0, .int .i64 0] 23))
  go_wp2_with fail
  refine (T3 _).mono ?_
  rintro e w6 ⟨rfl, x6⟩
  replace hx := (hx.trans x6).alloc (.cells #[.int .i64 1, .int .i64 18] 23)
  replace k1 := (k1.ext x6).ext ((Ext.refl w6).alloc (.cells #[.int .i64 1, .int .i64 18] 23))
  replace k2 := (k2.ext x6).ext ((Ext.refl w6).alloc (.cells #[.int .i64 1, .int .i64 18] 23))
  obtain ⟨c0, c1⟩ := k1.cells
  obtain ⟨d0, d1⟩ := k2.cells
  go_wp2_with fail
  go_ret
  exact ⟨retB (by simp), hx⟩

set_option maxHeartbeats 16000000 in
set_option maxRecDepth 100000 in
theorem DecBounds_neg_0 (k : Int) (n : Nat) (w : World) (hk : 0 ≤ k ∧ k ≤ 255) (hn : k % 19 = (n : Int)) (hn0 : n = 0) :
    Calls Tryd.prog 7 #[.int .u8 k, .bool true] w fun e w' => e = .returned (.bool true) ∧ Ext w w' := by
  have hn19 : n < 19 := by omega
  have eA : cutS { data := #[45] } bigS n = ({ data := #[45] } ++ ByteArray.extract { data := #[57, 50, 50, 51, 51, 55, 50, 48, 51, 54, 56, 53, 52, 55, 55, 53, 56, 48, 55] } 0 19 : ByteArray) := if_pos hn0
  have A := ParseIs.of (s := cutS { data := #[45] } bigS n) (by have := (cut_size n hn19).2.2.1; omega) (big_neg n hn19)
  rw [eA] at A
  clear eA
  have eB : cutS { data := #[45] } moreS n = ({ data := #[45] } ++ ByteArray.extract { data := #[57, 50, 50, 51, 51, 55, 50, 48, 51, 54, 56, 53, 52, 55, 55, 53, 56, 48, 56] } 0 19 : ByteArray) := if_pos hn0
  have B := ParseIs.of (s := cutS { data := #[45] } moreS n) (by have := (cut_size n hn19).2.2.2; omega) (more_neg n hn19)
  rw [eB] at B
  clear eB
  have T1 := ParseIs.of (s := { data := #[45] } ++ { data := #[48, 46, 48, 48, 48, 48, 48, 48, 48, 48, 48, 48, 48, 48, 48, 48, 48, 48, 48, 49] }) (by decide +kernel) (M := -1) (S := 18) (e := 0) (at_ := 0) (by decide +kernel)
  have T2 := ParseIs.of (s := { data := #[45] } ++ { data := #[48, 46, 48, 48, 48, 48, 48, 48, 48, 48, 48, 48, 48, 48, 48, 48, 48, 48, 48, 48, 49] }) (by decide +kernel) (M := 0) (S := 0) (e := 12) (at_ := 0) (by decide +kernel)
  have T3 := ParseIs.of (s := { data := #[45] } ++ { data := #[48, 46, 48, 48, 48, 48, 48, 48, 48, 48, 48, 48, 48, 48, 48, 48, 48, 48, 48, 49, 48] }) (by decide +kernel) (M := -1) (S := 18) (e := 0) (at_ := 0) (by decide +kernel)
  subst hn0
  go_enter Tryd.func7, Tryd.ntmps7
  go_wp2_with fail
  refine (known_any _).mono ?_
  rintro e w1 ⟨rfl, x1⟩
  go_upto_region 5 with fail
  rw [hn]
  go_wp2_with fail
  refine (A _).mono ?_
  rintro e w2 ⟨rfl, x2⟩
  have hx := (x1.trans x2).alloc (.cells #[.int .i64 (-9223372036854775807), .int .i64 ((0 : Nat) : Int)] 23)
  have k1 : DecIn w2.heap.size (-9223372036854775807) ((0 : Nat) : Int) (w2.alloc (.cells #[.int .i64 (-9223372036854775807), .int .i64 ((0 : Nat) : Int)] 23)) := heap_last _ _
  go_wp2_with fail
  refine (B _).mono ?_
  rintro e w3 ⟨rfl, x3⟩
  replace hx := (hx.trans x3).alloc (.cells #[.int .i64 0, .int .i64 0] 23)
  replace k1 := (k1.ext x3).ext ((Ext.refl w3).alloc (.cells #[.int .i64 0, .int .i64 0] 23))
  go_wp2_with fail
  refine (T1 _).mono ?_
  rintro e w4 ⟨rfl, x4⟩
  replace hx := (hx.trans x4).alloc (.cells #[.int .i64 (-1), .int .i64 18] 23)
  replace k1 := (k1.ext x4).ext ((Ext.refl w4).alloc (.cells #[.int .i64 (-1), .int .i64 18] 23))
  have k2 : DecIn w4.heap.size (-1) 18 (w4.alloc (.cells #[.int .i64 (-1), .int .i64 18] 23)) := heap_last _ _
  go_wp2_with fail
  refine (T2 _).mono ?_
  rintro e w5 ⟨rfl, x5⟩
  replace hx := (hx.trans x5).alloc (.cells #[.int .i64 0, .int .i64 0] 23)
  replace k1 := (k1.ext x5).ext ((Ext.refl w5).alloc (.cells #[.int .i64 0, .int .i64 0] 23))
  replace k2 := (k2.ext x5).ext ((Ext.refl w5).alloc (.cells #[.int .i64 0, .int .i64 0] 23))
  go_wp2_with fail
  refine (T3 _).mono ?_
  rintro e w6 ⟨rfl, x6⟩
  replace hx := (hx.trans x6).alloc (.cells #[.int .i64 (-1), .int .i64 18] 23)
  replace k1 := (k1.ext x6).ext ((Ext.refl w6).alloc (.cells #[.int .i64 (-1), .int .i64 18] 23))
  replace k2 := (k2.ext x6).ext ((Ext.refl w6).alloc (.cells #[.int .i64 (-1), .int .i64 18] 23))
  obtain ⟨c0, c1⟩ := k1.cells
  obtain ⟨d0, d1⟩ := k2.cells
  go_wp2_with fail
  go_ret
  exact ⟨retB (by simp), hx⟩

set_option maxHeartbeats 16000000 in
set_option maxRecDepth 100000 in
theorem DecBounds_neg_n (k : Int) (n : Nat) (w : World) (hk : 0 ≤ k ∧ k ≤ 255) (hn : k % 19 = (n : Int)) (hn0 : n ≠ 0) :
    Calls Tryd.prog 7 #[.int .u8 k, .bool true] w fun e w' => e = .returned (.bool true) ∧ Ext w w' := by
  have hn19 : n < 19 := by omega
  have eA : cutS { data := #[45] } bigS n = ({ data := #[45] } ++ ByteArray.extract { data := #[57, 50, 50, 51, 51, 55, 50, 48, 51, 54, 56, 53, 52, 55, 55, 53, 56, 48, 55] } 0 (19 - n) ++ { data := #[46] } ++ ByteArray.extract { data := #[57, 50, 50, 51, 51, 55, 50, 48, 51, 54, 56, 53, 52, 55, 55, 53, 56, 48, 55] } (19 - n) 19 : ByteArray) := if_neg hn0
  have A := ParseIs.of (s := cutS { data := #[45] } bigS n) (by have := (cut_size n hn19).2.2.1; omega) (big_neg n hn19)
  rw [eA] at A
  clear eA
  have eB : cutS { data := #[45] } moreS n = ({ data := #[45] } ++ ByteArray.extract { data := #[57, 50, 50, 51, 51, 55, 50, 48, 51, 54, 56, 53, 52, 55, 55, 53, 56, 48, 56] } 0 (19 - n) ++ { data := #[46] } ++ ByteArray.extract { data := #[57, 50, 50, 51, 51, 55, 50, 48, 51, 54, 56, 53, 52, 55, 55, 53, 56, 48, 56] } (19 - n) 19 : ByteArray) := if_neg hn0
  have B := ParseIs.of (s := cutS { data := #[45] } moreS n) (by have := (cut_size n hn19).2.2.2; omega) (more_neg n hn19)
  rw [eB] at B
  clear eB
  have T1 := ParseIs.of (s := { data := #[45] } ++ { data := #[48, 46, 48, 48, 48, 48, 48, 48, 48, 48, 48, 48, 48, 48, 48, 48, 48, 48, 48, 49] }) (by decide +kernel) (M := -1) (S := 18) (e := 0) (at_ := 0) (by decide +kernel)
  have T2 := ParseIs.of (s := { data := #[45] } ++ { data := #[48, 46, 48, 48, 48, 48, 48, 48, 48, 48, 48, 48, 48, 48, 48, 48, 48, 48, 48, 48, 49] }) (by decide +kernel) (M := 0) (S := 0) (e := 12) (at_ := 0) (by decide +kernel)
  have T3 := ParseIs.of (s := { data := #[45] } ++ { data := #[48, 46, 48, 48, 48, 48, 48, 48, 48, 48, 48, 48, 48, 48, 48, 48, 48, 48, 48, 49, 48] }) (by decide +kernel) (M := -1) (S := 18) (e := 0) (at_ := 0) (by decide +kernel)
  have e4 : ((19 : Int) - (n : Int)).toNat = 19 - n := by omega
  go_enter Tryd.func7, Tryd.ntmps7
  go_wp2_with fail
  refine (known_any _).mono ?_
  rintro e w1 ⟨rfl, x1⟩
  go_upto_region 5 with fail
  rw [hn]
  go_wp2_with fail
  go_quiet (fail)
  go_wp2_with fail
  refine (A _).mono ?_
  rintro e w2 ⟨rfl, x2⟩
  have hx := ((x1.drewN _).trans x2).alloc (.cells #[.int .i64 (-9223372036854775807), .int .i64 n] 23)
  have k1 : DecIn w2.heap.size (-9223372036854775807) n (w2.alloc (.cells #[.int .i64 (-9223372036854775807), .int .i64 n] 23)) := heap_last _ _
  go_wp2_with fail
  refine (B _).mono ?_
  rintro e w3 ⟨rfl, x3⟩
  replace hx := (hx.trans x3).alloc (.cells #[.int .i64 0, .int .i64 0] 23)
  replace k1 := (k1.ext x3).ext ((Ext.refl w3).alloc (.cells #[.int .i64 0, .int .i64 0] 23))
  go_wp2_with fail
  refine (T1 _).mono ?_
  rintro e w4 ⟨rfl, x4⟩
  replace hx := (hx.trans x4).alloc (.cells #[.int .i64 (-1), .int .i64 18] 23)
  replace k1 := (k1.ext x4).ext ((Ext.refl w4).alloc (.cells #[.int .i64 (-1), .int .i64 18] 23))
  have k2 : DecIn w4.heap.size (-1) 18 (w4.alloc (.cells #[.int .i64 (-1), .int .i64 18] 23)) := heap_last _ _
  go_wp2_with fail
  refine (T2 _).mono ?_
  rintro e w5 ⟨rfl, x5⟩
  replace hx := (hx.trans x5).alloc (.cells #[.int .i64 0, .int .i64 0] 23)
  replace k1 := (k1.ext x5).ext ((Ext.refl w5).alloc (.cells #[.int .i64 0, .int .i64 0] 23))
  replace k2 := (k2.ext x5).ext ((Ext.refl w5).alloc (.cells #[.int .i64 0, .int .i64 0] 23))
  go_wp2_with fail
  refine (T3 _).mono ?_
  rintro e w6 ⟨rfl, x6⟩
  replace hx := (hx.trans x6).alloc (.cells #[.int .i64 (-1), .int .i64 18] 23)
  replace k1 := (k1.ext x6).ext ((Ext.refl w6).alloc (.cells #[.int .i64 (-1), .int .i64 18] 23))
  replace k2 := (k2.ext x6).ext ((Ext.refl w6).alloc (.cells #[.int .i64 (-1), .int .i64 18] 23))
  obtain ⟨c0, c1⟩ := k1.cells
  obtain ⟨d0, d1⟩ := k2.cells
  go_wp2_with fail
  go_ret
  exact ⟨retB (by simp), hx⟩

theorem DecBounds_main (k : Int) (neg : Bool) (w : World) (hk : 0 ≤ k ∧ k ≤ 255) :
    Calls Tryd.prog 7 #[.int .u8 k, .bool neg] w fun e w' => e = .returned (.bool true) ∧ Ext w w' := by
  obtain ⟨n, hn⟩ : ∃ n : Nat, k % 19 = (n : Int) := ⟨(k % 19).toNat, by omega⟩
  by_cases h0 : n = 0
  · cases neg
    · exact DecBounds_pos_0 k n w hk hn h0
    · exact DecBounds_neg_0 k n w hk hn h0
  · cases neg
    · exact DecBounds_pos_n k n w hk hn h0
    · exact DecBounds_neg_n k n w hk hn h0
end Go.Proofs.YtiancppdcfahaaaDoor
