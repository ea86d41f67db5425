import Derived.Test.YtjjnmefihdjglaaGreatGE
import Derived.Test.YtjjnmefihdjglaaGreatPtD
namespace Go.Proofs.YtjjnmefihdjglaaGreat
open Go.RowKit
def getL (n : ByteArray) : List (ByteArray × ByteArray) → ByteArray × Bool
 | [] => (⟨#[]⟩, false)
 | x :: l => if cmpS x.1 n = 0 then (x.2, true) else getL n l
theorem cmpBytes_zero : ∀ (a b : List UInt8), Lib.compareBytes a b = 0 ↔ a = b
 | [], [] => by simp [Lib.compareBytes]
 | [], _ :: _ => by simp [Lib.compareBytes]
 | _ :: _, [] => by simp [Lib.compareBytes]
 | x :: l, y :: m => by
   unfold Lib.compareBytes
   by_cases h : x < y
   ·rw [if_pos h]
    have : x ≠ y := fun e => by subst e; exact UInt8.lt_irrefl _ h
    simp [this]
   ·rw [if_neg h]
    by_cases h2 : y < x
    ·rw [if_pos h2]
     have : x ≠ y := fun e => by subst e; exact UInt8.lt_irrefl _ h2
     simp [this]
    ·rw [if_neg h2, cmpBytes_zero l m]
     have : x = y := UInt8.le_antisymm (UInt8.not_lt.1 h2) (UInt8.not_lt.1 h)
     simp [this]
theorem cmpS_zero (a b : ByteArray) : cmpS a b = 0 ↔ a = b := by
 unfold cmpS
 rw [cmpBytes_zero]
 constructor
 ·intro h
  obtain ⟨⟨x⟩⟩ := a
  obtain ⟨⟨y⟩⟩ := b
  simp only at h
  rw [h]
 ·intro h; rw [h]
theorem same_is (a b : ByteArray) : (a.toList == b.toList) = decide (cmpS a b = 0) := by
 rw [ByteArray.toList_eq, ByteArray.toList_eq]
 unfold cmpS
 by_cases h : a.data.toList = b.data.toList
 ·rw [decide_eq_true ((cmpBytes_zero _ _).2 h), h]; simp
 ·rw [decide_eq_false (fun e => h ((cmpBytes_zero _ _).1 e))]; simpa using h
set_option maxHeartbeats 4000000 in
set_option maxRecDepth 100000 in
theorem labGet_any (a : Option Addr) (c : Nat) (l : List (ByteArray × ByteArray)) (nm : ByteArray) (w : World) (hl : (l.length : Int) ≤ 9223372036854775807) (hA : LabA a l w) :
  Calls Tryz.prog 131 #[.slice a l.length c, .string nm] w fun e w' => e = .returned (.tuple #[.string (getL nm l).1, .bool (getL nm l).2]) ∧ Ext w w' := by
 obtain ⟨R, hR⟩ : ∃ R, getL nm l = R := ⟨_, rfl⟩
 rw [hR]
 replace hR := Lib.hid hR
 go_enter Tryz.func131, Tryz.ntmps131
 go_wp2_with fail
 go_loopw [10] (fun i wr => ∃ k : Nat, i = .int .i64 k ∧ k ≤ l.length ∧ Hid (getL nm (l.drop k) = R) ∧ Ext w wr) (fun i _ => l.length - (intOf i).toNat)
 case atStart => exact ⟨0, rfl, Nat.zero_le _, Lib.hid hR.out, Ext.refl _⟩
 case round =>
  obtain ⟨k, rfl, hk, hg, xr⟩ := hrel
  by_cases hlt : k < l.length
  ·have hd := hg.out
   rw [List.drop_eq_getElem_cons hlt] at hd
   obtain ⟨b, o, rfl, hb, hL⟩ := hA (by omega)
   obtain ⟨q0, q1⟩ := hL k hlt
   have r0 := (xr.cell (p := ⟨b, o + k * 2, none⟩) hb).trans q0
   have r1 := (xr.cell (p := ⟨b, o + k * 2 + 1, none⟩) hb).trans q1
   obtain ⟨n, v, hx⟩ : ∃ n v, l[k] = (n, v) := ⟨_, _, rfl⟩
   rw [hx] at hd r0 r1
   dsimp only at r0 r1
   unfold getL at hd
   dsimp only at hd
   have se := same_is n nm
   clear q0 q1 hg hR
   by_cases h0 : cmpS n nm = 0
   ·rw [decide_eq_true h0] at se
    rw [if_pos h0] at hd
    have e1 : Hid (v = R.1 ∧ true = R.2) := Lib.hid (by rw [← hd]; exact ⟨rfl, rfl⟩)
    clear hd h0
    go_wp2_with fail
    go_ret2
    exact ⟨ret2 (congrArg Value.string e1.out.1) (congrArg Value.bool e1.out.2), xr.alloc _⟩
   ·rw [decide_eq_false h0] at se
    rw [if_neg h0] at hd
    replace hd := Lib.hid hd
    clear h0
    go_wp2_with fail
    go_roundw
    case rel => exact ⟨k + 1, rfl, hlt, hd, xr.alloc _⟩
    case measure => simp only [intOf]; omega
  ·have hd := hg.out
   rw [show l.drop k = [] from List.drop_eq_nil_of_le (by omega)] at hd
   have e1 : Hid ((⟨#[]⟩ : ByteArray) = R.1 ∧ false = R.2) := Lib.hid (by rw [← hd]; exact ⟨rfl, rfl⟩)
   have hk3 : l.length ≤ k := by omega
   clear hk hd hg hR hA
   go_wp2_with fail
   go_ret2
   exact ⟨ret2 (congrArg Value.string e1.out.1) (congrArg Value.bool e1.out.2), xr⟩
def boundB (r : Int) (f : Bool) (M S : Int) : Bool :=
 if r = 1 ∧ f = false then goodB M S else if r = 2 then (!f && (goodB M S && (decide (0 ≤ M) && decide (cmpD (cM M S) (cS M S) (cM 1 0) (cS 1 0) ≤ 0)))) else ((M == 0 && S == 0) && (decide (r = 1) || !f))
def valB (kind r m s : Int) : Bool := goodB m s && (decide (0 ≤ m) || !(decide (kind = 2) || (decide (r = 1) || decide (r = 3))))
def timeB (t : Bool) (T : Int) : Bool := decide (T = 0) || (t && (decide (-1125899906842624 ≤ T) && decide (T ≤ 1125899906842624)))
def ownS (r : Int) : ByteArray := if r = 1 then ⟨#[108, 101]⟩ else if r = 2 then ⟨#[113, 117, 97, 110, 116, 105, 108, 101]⟩ else ⟨#[]⟩
def freeB (l : List (ByteArray × ByteArray)) (r : Int) : Bool := !(decide (r = 1) || decide (r = 2)) || !(getL (ownS r) l).2
set_option maxHeartbeats 4000000 in
set_option maxRecDepth 100000 in
theorem isBound_any (v : Value) (r : Int) (f : Bool) (M S m s : Int) (t : Bool) (T : Int) (w : World) (i : I64 M) (j : I64 S) :
  Calls Tryz.prog 111 #[ptV v r f M S m s t T] w fun e w' => e = .returned (.bool (boundB r f M S)) ∧ Ext w w' := by
 have G := fun W => Good_any M S W i j
 have C := fun W => Compare_any M S 1 0 W i j (by unfold I64; omega) (by unfold I64; omega)
 unfold boundB
 generalize cmpD (cM M S) (cS M S) (cM 1 0) (cS 1 0) = cv at *
 obtain ⟨gb, hgb⟩ : ∃ g, goodB M S = g := ⟨_, rfl⟩
 rw [hgb] at G ⊢
 clear hgb i j
 unfold decV at *
 unfold ptV
 have g1 : PtIn w.heap.size v r f M S m s t T (w.alloc (.cells #[v, .int .i64 r, .bool f, .int .i64 M, .int .i64 S, .int .i64 m, .int .i64 s, .bool t, .int .i64 T] 40)) := heap_last _ _
 have hx : Ext w (w.alloc (.cells #[v, .int .i64 r, .bool f, .int .i64 M, .int .i64 S, .int .i64 m, .int .i64 s, .bool t, .int .i64 T] 40)) := (Ext.refl _).alloc _
 obtain ⟨R, hR⟩ : ∃ R, (if r = 1 ∧ f = false then gb else if r = 2 then (!f && (gb && (decide (0 ≤ M) && decide (cv ≤ 0)))) else ((M == 0 && S == 0) && (decide (r = 1) || !f))) = R := ⟨_, rfl⟩
 rw [hR]
 by_cases h1 : r = 1
 ·subst h1
  cases f
  ·have HV : Hid (R = gb) := Lib.hid (by rw [← hR]; simp)
   clear hR
   obtain ⟨k0, k1, k2, k3, k4, k5, k6, k7, k8⟩ := g1.cells
   go_enter Tryz.func111, Tryz.ntmps111
   go_wp2_with fail
   (with_reducible refine (G _).mono ?_)
   rintro e wz0 ⟨rfl, xz0⟩
   clear k0 k1 k2 k3 k4 k5 k6 k7 k8
   replace g1 := g1.ext xz0
   replace hx := hx.trans xz0
   obtain ⟨k0, k1, k2, k3, k4, k5, k6, k7, k8⟩ := g1.cells
   go_wp2_with fail
   go_ret
   exact ⟨retB (by first | exact HV.out.symm | (rw [HV.out]; simp [*])), hx⟩
  ·by_cases hM : M = 0
   ·subst hM
    by_cases hS : S = 0
    ·subst hS
     have HV : Hid (R = true) := Lib.hid (by rw [← hR]; simp)
     clear hR
     obtain ⟨k0, k1, k2, k3, k4, k5, k6, k7, k8⟩ := g1.cells
     clear g1
     go_enter Tryz.func111, Tryz.ntmps111
     go_wp2_with fail
     go_ret
     exact ⟨retB (by first | exact HV.out.symm | (rw [HV.out]; simp [*])), hx⟩
    ·have HV : Hid (R = false) := Lib.hid (by rw [← hR]; simp [hS])
     clear hR
     obtain ⟨k0, k1, k2, k3, k4, k5, k6, k7, k8⟩ := g1.cells
     clear g1
     go_enter Tryz.func111, Tryz.ntmps111
     go_wp2_with fail
     go_ret
     exact ⟨retB (by first | exact HV.out.symm | (rw [HV.out]; simp [*])), hx⟩
   ·have HV : Hid (R = false) := Lib.hid (by rw [← hR]; simp [hM])
    clear hR
    obtain ⟨k0, k1, k2, k3, k4, k5, k6, k7, k8⟩ := g1.cells
    clear g1
    go_enter Tryz.func111, Tryz.ntmps111
    go_wp2_with fail
    go_ret
    exact ⟨retB (by first | exact HV.out.symm | (rw [HV.out]; simp [*])), hx⟩
 ·by_cases h2 : r = 2
  ·subst h2
   cases f
   ·cases gb
    ·have HV : Hid (R = false) := Lib.hid (by rw [← hR]; simp)
     clear hR h1
     obtain ⟨k0, k1, k2, k3, k4, k5, k6, k7, k8⟩ := g1.cells
     go_enter Tryz.func111, Tryz.ntmps111
     go_wp2_with fail
     (with_reducible refine (G _).mono ?_)
     rintro e wz0 ⟨rfl, xz0⟩
     clear k0 k1 k2 k3 k4 k5 k6 k7 k8
     replace g1 := g1.ext xz0
     replace hx := hx.trans xz0
     obtain ⟨k0, k1, k2, k3, k4, k5, k6, k7, k8⟩ := g1.cells
     go_wp2_with fail
     go_ret
     exact ⟨retB (by first | exact HV.out.symm | (rw [HV.out]; simp [*])), hx⟩
    ·by_cases hM : 0 ≤ M
     ·have HV : Hid (R = decide (cv ≤ 0)) := Lib.hid (by rw [← hR]; simp [hM])
      clear hR h1
      obtain ⟨k0, k1, k2, k3, k4, k5, k6, k7, k8⟩ := g1.cells
      go_enter Tryz.func111, Tryz.ntmps111
      go_wp2_with fail
      (with_reducible refine (G _).mono ?_)
      rintro e wz0 ⟨rfl, xz0⟩
      clear k0 k1 k2 k3 k4 k5 k6 k7 k8
      replace g1 := g1.ext xz0
      replace hx := hx.trans xz0
      obtain ⟨k0, k1, k2, k3, k4, k5, k6, k7, k8⟩ := g1.cells
      go_wp2_with fail
      (with_reducible refine (C _).mono ?_)
      rintro e wz1 ⟨rfl, xz1⟩
      clear k0 k1 k2 k3 k4 k5 k6 k7 k8
      replace g1 := g1.ext xz1
      replace hx := hx.trans xz1
      obtain ⟨k0, k1, k2, k3, k4, k5, k6, k7, k8⟩ := g1.cells
      go_wp2_with fail
      go_ret
      exact ⟨retB (by first | exact HV.out.symm | (rw [HV.out]; simp [*])), hx⟩
     ·have HV : Hid (R = false) := Lib.hid (by rw [← hR]; simp [hM])
      clear hR h1
      obtain ⟨k0, k1, k2, k3, k4, k5, k6, k7, k8⟩ := g1.cells
      go_enter Tryz.func111, Tryz.ntmps111
      go_wp2_with fail
      (with_reducible refine (G _).mono ?_)
      rintro e wz0 ⟨rfl, xz0⟩
      clear k0 k1 k2 k3 k4 k5 k6 k7 k8
      replace g1 := g1.ext xz0
      replace hx := hx.trans xz0
      obtain ⟨k0, k1, k2, k3, k4, k5, k6, k7, k8⟩ := g1.cells
      go_wp2_with fail
      go_ret
      exact ⟨retB (by first | exact HV.out.symm | (rw [HV.out]; simp [*])), hx⟩
   ·have HV : Hid (R = false) := Lib.hid (by rw [← hR]; simp)
    clear hR h1
    obtain ⟨k0, k1, k2, k3, k4, k5, k6, k7, k8⟩ := g1.cells
    clear g1
    go_enter Tryz.func111, Tryz.ntmps111
    go_wp2_with fail
    go_ret
    exact ⟨retB (by first | exact HV.out.symm | (rw [HV.out]; simp [*])), hx⟩
  ·cases f
   ·by_cases hM : M = 0
    ·subst hM
     by_cases hS : S = 0
     ·subst hS
      have HV : Hid (R = true) := Lib.hid (by rw [← hR]; simp [h1, h2])
      clear hR
      obtain ⟨k0, k1, k2, k3, k4, k5, k6, k7, k8⟩ := g1.cells
      clear g1
      go_enter Tryz.func111, Tryz.ntmps111
      go_wp2_with fail
      go_ret
      exact ⟨retB (by first | exact HV.out.symm | (rw [HV.out]; simp [*])), hx⟩
     ·have HV : Hid (R = false) := Lib.hid (by rw [← hR]; simp [h1, h2, hS])
      clear hR
      obtain ⟨k0, k1, k2, k3, k4, k5, k6, k7, k8⟩ := g1.cells
      clear g1
      go_enter Tryz.func111, Tryz.ntmps111
      go_wp2_with fail
      go_ret
      exact ⟨retB (by first | exact HV.out.symm | (rw [HV.out]; simp [*])), hx⟩
    ·have HV : Hid (R = false) := Lib.hid (by rw [← hR]; simp [h1, h2, hM])
     clear hR
     obtain ⟨k0, k1, k2, k3, k4, k5, k6, k7, k8⟩ := g1.cells
     clear g1
     go_enter Tryz.func111, Tryz.ntmps111
     go_wp2_with fail
     go_ret
     exact ⟨retB (by first | exact HV.out.symm | (rw [HV.out]; simp [*])), hx⟩
   ·have HV : Hid (R = false) := Lib.hid (by rw [← hR]; simp [h1, h2])
    clear hR
    by_cases hM : M = 0
    ·subst hM
     by_cases hS : S = 0
     ·subst hS
      obtain ⟨k0, k1, k2, k3, k4, k5, k6, k7, k8⟩ := g1.cells
      clear g1
      go_enter Tryz.func111, Tryz.ntmps111
      go_wp2_with fail
      go_ret
      exact ⟨retB (by first | exact HV.out.symm | (rw [HV.out]; simp [*])), hx⟩
     ·obtain ⟨k0, k1, k2, k3, k4, k5, k6, k7, k8⟩ := g1.cells
      clear g1
      go_enter Tryz.func111, Tryz.ntmps111
      go_wp2_with fail
      go_ret
      exact ⟨retB (by first | exact HV.out.symm | (rw [HV.out]; simp [*])), hx⟩
    ·obtain ⟨k0, k1, k2, k3, k4, k5, k6, k7, k8⟩ := g1.cells
     clear g1
     go_enter Tryz.func111, Tryz.ntmps111
     go_wp2_with fail
     go_ret
     exact ⟨retB (by first | exact HV.out.symm | (rw [HV.out]; simp [*])), hx⟩
set_option maxHeartbeats 4000000 in
set_option maxRecDepth 100000 in
theorem isValue_any (kind : Int) (v : Value) (r : Int) (f : Bool) (M S m s : Int) (t : Bool) (T : Int) (w : World) (i : I64 m) (j : I64 s) :
  Calls Tryz.prog 112 #[.int .i64 kind, ptV v r f M S m s t T] w fun e w' => e = .returned (.bool (valB kind r m s)) ∧ Ext w w' := by
 have G := fun W => Good_any m s W i j
 unfold valB
 obtain ⟨gb, hgb⟩ : ∃ g, goodB m s = g := ⟨_, rfl⟩
 rw [hgb] at G ⊢
 clear hgb i j
 unfold decV at *
 unfold ptV
 have g1 : PtIn w.heap.size v r f M S m s t T (w.alloc (.cells #[v, .int .i64 r, .bool f, .int .i64 M, .int .i64 S, .int .i64 m, .int .i64 s, .bool t, .int .i64 T] 40)) := heap_last _ _
 have hx : Ext w (w.alloc (.cells #[v, .int .i64 r, .bool f, .int .i64 M, .int .i64 S, .int .i64 m, .int .i64 s, .bool t, .int .i64 T] 40)) := (Ext.refl _).alloc _
 obtain ⟨R, hR⟩ : ∃ R, (gb && (decide (0 ≤ m) || !(decide (kind = 2) || (decide (r = 1) || decide (r = 3))))) = R := ⟨_, rfl⟩
 rw [hR]
 by_cases h1 : kind = 2
 ·subst h1
  cases gb
  ·have HV : Hid (R = false) := Lib.hid (by rw [← hR]; simp)
   clear hR
   obtain ⟨k0, k1, k2, k3, k4, k5, k6, k7, k8⟩ := g1.cells
   go_enter Tryz.func112, Tryz.ntmps112
   go_wp2_with fail
   (with_reducible refine (G _).mono ?_)
   rintro e wz0 ⟨rfl, xz0⟩
   clear k0 k1 k2 k3 k4 k5 k6 k7 k8
   replace g1 := g1.ext xz0
   replace hx := hx.trans xz0
   obtain ⟨k0, k1, k2, k3, k4, k5, k6, k7, k8⟩ := g1.cells
   go_wp2_with fail
   go_ret
   exact ⟨retB (by first | exact HV.out.symm | (rw [HV.out]; simp [*])), hx⟩
  ·by_cases hm : 0 ≤ m
   ·have HV : Hid (R = true) := Lib.hid (by rw [← hR]; simp [hm])
    clear hR
    obtain ⟨k0, k1, k2, k3, k4, k5, k6, k7, k8⟩ := g1.cells
    go_enter Tryz.func112, Tryz.ntmps112
    go_wp2_with fail
    (with_reducible refine (G _).mono ?_)
    rintro e wz0 ⟨rfl, xz0⟩
    clear k0 k1 k2 k3 k4 k5 k6 k7 k8
    replace g1 := g1.ext xz0
    replace hx := hx.trans xz0
    obtain ⟨k0, k1, k2, k3, k4, k5, k6, k7, k8⟩ := g1.cells
    go_wp2_with fail
    go_ret
    exact ⟨retB (by first | exact HV.out.symm | (rw [HV.out]; simp [*])), hx⟩
   ·have HV : Hid (R = false) := Lib.hid (by rw [← hR]; simp [hm])
    clear hR
    obtain ⟨k0, k1, k2, k3, k4, k5, k6, k7, k8⟩ := g1.cells
    go_enter Tryz.func112, Tryz.ntmps112
    go_wp2_with fail
    (with_reducible refine (G _).mono ?_)
    rintro e wz0 ⟨rfl, xz0⟩
    clear k0 k1 k2 k3 k4 k5 k6 k7 k8
    replace g1 := g1.ext xz0
    replace hx := hx.trans xz0
    obtain ⟨k0, k1, k2, k3, k4, k5, k6, k7, k8⟩ := g1.cells
    go_wp2_with fail
    go_ret
    exact ⟨retB (by first | exact HV.out.symm | (rw [HV.out]; simp [*])), hx⟩
 ·by_cases h2 : r = 1
  ·subst h2
   cases gb
   ·have HV : Hid (R = false) := Lib.hid (by rw [← hR]; simp)
    clear hR
    obtain ⟨k0, k1, k2, k3, k4, k5, k6, k7, k8⟩ := g1.cells
    go_enter Tryz.func112, Tryz.ntmps112
    go_wp2_with fail
    (with_reducible refine (G _).mono ?_)
    rintro e wz0 ⟨rfl, xz0⟩
    clear k0 k1 k2 k3 k4 k5 k6 k7 k8
    replace g1 := g1.ext xz0
    replace hx := hx.trans xz0
    obtain ⟨k0, k1, k2, k3, k4, k5, k6, k7, k8⟩ := g1.cells
    go_wp2_with fail
    go_ret
    exact ⟨retB (by first | exact HV.out.symm | (rw [HV.out]; simp [*])), hx⟩
   ·by_cases hm : 0 ≤ m
    ·have HV : Hid (R = true) := Lib.hid (by rw [← hR]; simp [hm])
     clear hR
     obtain ⟨k0, k1, k2, k3, k4, k5, k6, k7, k8⟩ := g1.cells
     go_enter Tryz.func112, Tryz.ntmps112
     go_wp2_with fail
     (with_reducible refine (G _).mono ?_)
     rintro e wz0 ⟨rfl, xz0⟩
     clear k0 k1 k2 k3 k4 k5 k6 k7 k8
     replace g1 := g1.ext xz0
     replace hx := hx.trans xz0
     obtain ⟨k0, k1, k2, k3, k4, k5, k6, k7, k8⟩ := g1.cells
     go_wp2_with fail
     go_ret
     exact ⟨retB (by first | exact HV.out.symm | (rw [HV.out]; simp [*])), hx⟩
    ·have HV : Hid (R = false) := Lib.hid (by rw [← hR]; simp [hm])
     clear hR
     obtain ⟨k0, k1, k2, k3, k4, k5, k6, k7, k8⟩ := g1.cells
     go_enter Tryz.func112, Tryz.ntmps112
     go_wp2_with fail
     (with_reducible refine (G _).mono ?_)
     rintro e wz0 ⟨rfl, xz0⟩
     clear k0 k1 k2 k3 k4 k5 k6 k7 k8
     replace g1 := g1.ext xz0
     replace hx := hx.trans xz0
     obtain ⟨k0, k1, k2, k3, k4, k5, k6, k7, k8⟩ := g1.cells
     go_wp2_with fail
     go_ret
     exact ⟨retB (by first | exact HV.out.symm | (rw [HV.out]; simp [*])), hx⟩
  ·by_cases h3 : r = 3
   ·subst h3
    clear h2
    cases gb
    ·have HV : Hid (R = false) := Lib.hid (by rw [← hR]; simp)
     clear hR
     obtain ⟨k0, k1, k2, k3, k4, k5, k6, k7, k8⟩ := g1.cells
     go_enter Tryz.func112, Tryz.ntmps112
     go_wp2_with fail
     (with_reducible refine (G _).mono ?_)
     rintro e wz0 ⟨rfl, xz0⟩
     clear k0 k1 k2 k3 k4 k5 k6 k7 k8
     replace g1 := g1.ext xz0
     replace hx := hx.trans xz0
     obtain ⟨k0, k1, k2, k3, k4, k5, k6, k7, k8⟩ := g1.cells
     go_wp2_with fail
     go_ret
     exact ⟨retB (by first | exact HV.out.symm | (rw [HV.out]; simp [*])), hx⟩
    ·by_cases hm : 0 ≤ m
     ·have HV : Hid (R = true) := Lib.hid (by rw [← hR]; simp [hm])
      clear hR
      obtain ⟨k0, k1, k2, k3, k4, k5, k6, k7, k8⟩ := g1.cells
      go_enter Tryz.func112, Tryz.ntmps112
      go_wp2_with fail
      (with_reducible refine (G _).mono ?_)
      rintro e wz0 ⟨rfl, xz0⟩
      clear k0 k1 k2 k3 k4 k5 k6 k7 k8
      replace g1 := g1.ext xz0
      replace hx := hx.trans xz0
      obtain ⟨k0, k1, k2, k3, k4, k5, k6, k7, k8⟩ := g1.cells
      go_wp2_with fail
      go_ret
      exact ⟨retB (by first | exact HV.out.symm | (rw [HV.out]; simp [*])), hx⟩
     ·have HV : Hid (R = false) := Lib.hid (by rw [← hR]; simp [hm])
      clear hR
      obtain ⟨k0, k1, k2, k3, k4, k5, k6, k7, k8⟩ := g1.cells
      go_enter Tryz.func112, Tryz.ntmps112
      go_wp2_with fail
      (with_reducible refine (G _).mono ?_)
      rintro e wz0 ⟨rfl, xz0⟩
      clear k0 k1 k2 k3 k4 k5 k6 k7 k8
      replace g1 := g1.ext xz0
      replace hx := hx.trans xz0
      obtain ⟨k0, k1, k2, k3, k4, k5, k6, k7, k8⟩ := g1.cells
      go_wp2_with fail
      go_ret
      exact ⟨retB (by first | exact HV.out.symm | (rw [HV.out]; simp [*])), hx⟩
   ·cases gb
    ·have HV : Hid (R = false) := Lib.hid (by rw [← hR]; simp)
     clear hR
     obtain ⟨k0, k1, k2, k3, k4, k5, k6, k7, k8⟩ := g1.cells
     go_enter Tryz.func112, Tryz.ntmps112
     go_wp2_with fail
     (with_reducible refine (G _).mono ?_)
     rintro e wz0 ⟨rfl, xz0⟩
     clear k0 k1 k2 k3 k4 k5 k6 k7 k8
     replace g1 := g1.ext xz0
     replace hx := hx.trans xz0
     obtain ⟨k0, k1, k2, k3, k4, k5, k6, k7, k8⟩ := g1.cells
     go_wp2_with fail
     go_ret
     exact ⟨retB (by first | exact HV.out.symm | (rw [HV.out]; simp [*])), hx⟩
    ·by_cases hm : 0 ≤ m
     ·have HV : Hid (R = true) := Lib.hid (by rw [← hR]; simp [hm])
      clear hR
      obtain ⟨k0, k1, k2, k3, k4, k5, k6, k7, k8⟩ := g1.cells
      go_enter Tryz.func112, Tryz.ntmps112
      go_wp2_with fail
      (with_reducible refine (G _).mono ?_)
      rintro e wz0 ⟨rfl, xz0⟩
      clear k0 k1 k2 k3 k4 k5 k6 k7 k8
      replace g1 := g1.ext xz0
      replace hx := hx.trans xz0
      obtain ⟨k0, k1, k2, k3, k4, k5, k6, k7, k8⟩ := g1.cells
      go_wp2_with fail
      go_ret
      exact ⟨retB (by first | exact HV.out.symm | (rw [HV.out]; simp [*])), hx⟩
     ·have HV : Hid (R = true) := Lib.hid (by rw [← hR]; simp [hm, h1, h2, h3])
      clear hR
      obtain ⟨k0, k1, k2, k3, k4, k5, k6, k7, k8⟩ := g1.cells
      go_enter Tryz.func112, Tryz.ntmps112
      go_wp2_with fail
      (with_reducible refine (G _).mono ?_)
      rintro e wz0 ⟨rfl, xz0⟩
      clear k0 k1 k2 k3 k4 k5 k6 k7 k8
      replace g1 := g1.ext xz0
      replace hx := hx.trans xz0
      obtain ⟨k0, k1, k2, k3, k4, k5, k6, k7, k8⟩ := g1.cells
      go_wp2_with fail
      go_ret
      exact ⟨retB (by first | exact HV.out.symm | (rw [HV.out]; simp [*])), hx⟩
set_option maxHeartbeats 4000000 in
set_option maxRecDepth 100000 in
theorem isFree_any (a : Option Addr) (c : Nat) (l : List (ByteArray × ByteArray)) (r : Int) (f : Bool) (M S m s : Int) (t : Bool) (T : Int) (w : World) (hl : (l.length : Int) ≤ 9223372036854775807) (hA : LabA a l w) :
  Calls Tryz.prog 114 #[ptV (.slice a l.length c) r f M S m s t T] w fun e w' => e = .returned (.bool (freeB l r)) ∧ Ext w w' := by
 have G := fun n W (x : Ext w W) => labGet_any a c l n W hl (hA.ext x)
 unfold freeB
 obtain ⟨v, hv⟩ : ∃ v, Value.slice a l.length c = v := ⟨_, rfl⟩
 rw [hv] at G
 rw [hv]
 clear hv hA hl
 unfold ptV
 have g1 : PtIn w.heap.size v r f M S m s t T (w.alloc (.cells #[v, .int .i64 r, .bool f, .int .i64 M, .int .i64 S, .int .i64 m, .int .i64 s, .bool t, .int .i64 T] 40)) := heap_last _ _
 have hx : Ext w (w.alloc (.cells #[v, .int .i64 r, .bool f, .int .i64 M, .int .i64 S, .int .i64 m, .int .i64 s, .bool t, .int .i64 T] 40)) := (Ext.refl _).alloc _
 obtain ⟨R, hR⟩ : ∃ R, (!(decide (r = 1) || decide (r = 2)) || !(getL (ownS r) l).2) = R := ⟨_, rfl⟩
 rw [hR]
 by_cases h1 : r = 1
 ·subst h1
  have C := fun W (x : Ext w W) => G ⟨#[108, 101]⟩ W x
  have HV : Hid (R = !(getL ⟨#[108, 101]⟩ l).2) := Lib.hid (by rw [← hR]; unfold ownS; simp)
  generalize (getL ⟨#[108, 101]⟩ l).1 = q1 at *
  generalize (getL ⟨#[108, 101]⟩ l).2 = q2 at *
  clear hR G
  obtain ⟨k0, k1, k2, k3, k4, k5, k6, k7, k8⟩ := g1.cells
  go_enter Tryz.func114, Tryz.ntmps114
  go_wp2_with fail
  (with_reducible refine (C _ hx).mono ?_)
  rintro e wz0 ⟨rfl, xz0⟩
  clear k0 k1 k2 k3 k4 k5 k6 k7 k8
  replace g1 := g1.ext xz0
  replace hx := hx.trans xz0
  obtain ⟨k0, k1, k2, k3, k4, k5, k6, k7, k8⟩ := g1.cells
  go_wp2_with fail
  go_ret
  exact ⟨retB (by first | exact HV.out.symm | (rw [HV.out]; simp [*])), hx⟩
 ·by_cases h2 : r = 2
  ·subst h2
   clear h1
   have C := fun W (x : Ext w W) => G ⟨#[113, 117, 97, 110, 116, 105, 108, 101]⟩ W x
   have HV : Hid (R = !(getL ⟨#[113, 117, 97, 110, 116, 105, 108, 101]⟩ l).2) := Lib.hid (by rw [← hR]; unfold ownS; simp)
   generalize (getL ⟨#[113, 117, 97, 110, 116, 105, 108, 101]⟩ l).1 = q1 at *
   generalize (getL ⟨#[113, 117, 97, 110, 116, 105, 108, 101]⟩ l).2 = q2 at *
   clear hR G
   obtain ⟨k0, k1, k2, k3, k4, k5, k6, k7, k8⟩ := g1.cells
   go_enter Tryz.func114, Tryz.ntmps114
   go_wp2_with fail
   (with_reducible refine (C _ hx).mono ?_)
   rintro e wz0 ⟨rfl, xz0⟩
   clear k0 k1 k2 k3 k4 k5 k6 k7 k8
   replace g1 := g1.ext xz0
   replace hx := hx.trans xz0
   obtain ⟨k0, k1, k2, k3, k4, k5, k6, k7, k8⟩ := g1.cells
   go_wp2_with fail
   go_ret
   exact ⟨retB (by first | exact HV.out.symm | (rw [HV.out]; simp [*])), hx⟩
  ·have C := fun W (x : Ext w W) => G ⟨#[]⟩ W x
   have HV : Hid (R = true) := Lib.hid (by rw [← hR]; unfold ownS; simp [h1, h2])
   generalize (getL ⟨#[]⟩ l).1 = q1 at *
   generalize (getL ⟨#[]⟩ l).2 = q2 at *
   clear hR G
   obtain ⟨k0, k1, k2, k3, k4, k5, k6, k7, k8⟩ := g1.cells
   go_enter Tryz.func114, Tryz.ntmps114
   go_wp2_with fail
   (with_reducible refine (C _ hx).mono ?_)
   rintro e wz0 ⟨rfl, xz0⟩
   clear k0 k1 k2 k3 k4 k5 k6 k7 k8
   replace g1 := g1.ext xz0
   replace hx := hx.trans xz0
   obtain ⟨k0, k1, k2, k3, k4, k5, k6, k7, k8⟩ := g1.cells
   go_wp2_with fail
   go_ret
   exact ⟨retB (by first | exact HV.out.symm | (rw [HV.out]; simp [*])), hx⟩
set_option maxHeartbeats 4000000 in
set_option maxRecDepth 100000 in
theorem isTime_any (v : Value) (r : Int) (f : Bool) (M S m s : Int) (t : Bool) (T : Int) (w : World) :
  Calls Tryz.prog 113 #[ptV v r f M S m s t T] w fun e w' => e = .returned (.bool (timeB t T)) ∧ Ext w w' := by
 unfold timeB
 unfold ptV
 have g1 : PtIn w.heap.size v r f M S m s t T (w.alloc (.cells #[v, .int .i64 r, .bool f, .int .i64 M, .int .i64 S, .int .i64 m, .int .i64 s, .bool t, .int .i64 T] 40)) := heap_last _ _
 have hx : Ext w (w.alloc (.cells #[v, .int .i64 r, .bool f, .int .i64 M, .int .i64 S, .int .i64 m, .int .i64 s, .bool t, .int .i64 T] 40)) := (Ext.refl _).alloc _
 obtain ⟨R, hR⟩ : ∃ R, (decide (T = 0) || (t && (decide (-1125899906842624 ≤ T) && decide (T ≤ 1125899906842624)))) = R := ⟨_, rfl⟩
 rw [hR]
 by_cases h0 : T = 0
 ·subst h0
  have HV : Hid (R = true) := Lib.hid (by rw [← hR]; simp)
  clear hR
  obtain ⟨k0, k1, k2, k3, k4, k5, k6, k7, k8⟩ := g1.cells
  clear g1
  go_enter Tryz.func113, Tryz.ntmps113
  go_wp2_with fail
  go_ret
  exact ⟨retB (by first | exact HV.out.symm | (rw [HV.out]; simp [*])), hx⟩
 ·cases t
  ·have HV : Hid (R = false) := Lib.hid (by rw [← hR]; simp [h0])
   clear hR
   obtain ⟨k0, k1, k2, k3, k4, k5, k6, k7, k8⟩ := g1.cells
   clear g1
   go_enter Tryz.func113, Tryz.ntmps113
   go_wp2_with fail
   go_ret
   exact ⟨retB (by first | exact HV.out.symm | (rw [HV.out]; simp [*])), hx⟩
  ·by_cases h1 : -1125899906842624 ≤ T
   ·have n1 : binOp .geq 2 (.int .i64 T) (.int .i64 (-1125899906842624)) = pure (.bool true) := by
     simp only [go_sem]; rw [show decide (T ≥ -1125899906842624) = true from decide_eq_true h1]
    by_cases h2 : T ≤ 1125899906842624
    ·have n2 : binOp .leq 2 (.int .i64 T) (.int .i64 1125899906842624) = pure (.bool true) := by
      simp only [go_sem]; rw [show decide (T ≤ 1125899906842624) = true from decide_eq_true h2]
     have HV : Hid (R = true) := Lib.hid (by rw [← hR]; simp [h1, h2])
     clear hR h1 h2
     obtain ⟨k0, k1, k2, k3, k4, k5, k6, k7, k8⟩ := g1.cells
     clear g1
     go_enter Tryz.func113, Tryz.ntmps113
     go_wp2_with fail
     go_ret
     exact ⟨retB (by first | exact HV.out.symm | (rw [HV.out]; simp [*])), hx⟩
    ·have n2 : binOp .leq 2 (.int .i64 T) (.int .i64 1125899906842624) = pure (.bool false) := by
      simp only [go_sem]; rw [show decide (T ≤ 1125899906842624) = false from decide_eq_false h2]
     have HV : Hid (R = false) := Lib.hid (by rw [← hR]; simp [h0, h2])
     clear hR h1 h2
     obtain ⟨k0, k1, k2, k3, k4, k5, k6, k7, k8⟩ := g1.cells
     clear g1
     go_enter Tryz.func113, Tryz.ntmps113
     go_wp2_with fail
     go_ret
     exact ⟨retB (by first | exact HV.out.symm | (rw [HV.out]; simp [*])), hx⟩
   ·have n1 : binOp .geq 2 (.int .i64 T) (.int .i64 (-1125899906842624)) = pure (.bool false) := by
     simp only [go_sem]; rw [show decide (T ≥ -1125899906842624) = false from decide_eq_false h1]
    have HV : Hid (R = false) := Lib.hid (by rw [← hR]; simp [h0, h1])
    clear hR h1
    obtain ⟨k0, k1, k2, k3, k4, k5, k6, k7, k8⟩ := g1.cells
    clear g1
    go_enter Tryz.func113, Tryz.ntmps113
    go_wp2_with fail
    go_ret
    exact ⟨retB (by first | exact HV.out.symm | (rw [HV.out]; simp [*])), hx⟩
end Go.Proofs.YtjjnmefihdjglaaGreat
