import Derived.Test.YtjjnmefihdjglaaGreatKB
import Derived.Test.YtjjnmefihdjglaaGreatPtD
set_option maxRecDepth 100000
set_option maxHeartbeats 64000000
set_option linter.all false
namespace Go.Proofs.YtjjnmefihdjglaaGreat
open Go.RowKit
def getL (n : ByteArray) : List (ByteArray × ByteArray) → ByteArray × Bool
 | [] => (⟨#[]⟩,false)
 | x :: l => if cmpS x.1 n = 0 then (x.2,true) else getL n l
theorem cmpBytes_zero : ∀ (a b : List UInt8),Lib.compareBytes a b = 0 ↔ a = b
 | [],[] => by simp [Lib.compareBytes]
 | [],_ :: _ => by simp [Lib.compareBytes]
 | _ :: _,[] => by simp [Lib.compareBytes]
 | x :: l,y :: m => by
   unfold Lib.compareBytes
   by_cases h : x < y
   ·rw [if_pos h]
    have : x ≠ y := fun e => by subst e; exact UInt8.lt_irrefl _ h
    simp [this]
   ·rw [if_neg h]
    by_cases h2 : y < x
    ·rw [if_pos h2]
     have : x ≠ y := fun e => by subst e; exact UInt8.lt_irrefl _ h2
     simp [this]
    ·rw [if_neg h2,cmpBytes_zero l m]
     have : x = y := UInt8.le_antisymm (UInt8.not_lt.1 h2) (UInt8.not_lt.1 h)
     simp [this]
theorem cmpS_zero (a b : ByteArray) : cmpS a b = 0 ↔ a = b := by
 unfold cmpS
 rw [cmpBytes_zero]
 constructor
 ·intro h
  obtain ⟨⟨x⟩⟩ := a
  obtain ⟨⟨y⟩⟩ := b
  simp only at h
  rw [h]
 ·intro h; rw [h]
theorem same_is (a b : ByteArray) : (a.toList == b.toList) = decide (cmpS a b = 0) := by
 rw [ByteArray.toList_eq,ByteArray.toList_eq]
 unfold cmpS
 by_cases h : a.data.toList = b.data.toList
 ·rw [decide_eq_true ((cmpBytes_zero _ _).2 h),h]; simp
 ·rw [decide_eq_false (fun e => h ((cmpBytes_zero _ _).1 e))]; simpa using h
theorem labGet_any (a : Option Addr) (c : Nat) (l : List (ByteArray × ByteArray)) (nm : ByteArray) (w : World) (hl : (l.length : Int) ≤ 9223372036854775807) (hA : LabA a l w) :
  Calls Tryz.prog 131 #[.slice a l.length c,.string nm] w fun e w' => e = .returned (.tuple #[.string (getL nm l).1,.bool (getL nm l).2]) ∧ Ext w w' := by
 obtain ⟨R,hR⟩ : ∃ R,getL nm l = R := ⟨_,rfl⟩
 rw [hR]
 replace hR := Lib.hid hR
 go_enter Tryz.func131,Tryz.ntmps131
 go_wp2_with fail
 go_loopw [10] (fun i wr => ∃ k : Nat,i = .int .i64 k ∧ k ≤ l.length ∧ Hid (getL nm (l.drop k) = R) ∧ Ext w wr) (fun i _ => l.length - (intOf i).toNat)
 case atStart => exact ⟨0,rfl,Nat.zero_le _,Lib.hid hR.out,Ext.refl _⟩
 case round =>
  obtain ⟨k,rfl,hk,hg,xr⟩ := hrel
  by_cases hlt : k < l.length
  ·have hd := hg.out
   rw [List.drop_eq_getElem_cons hlt] at hd
   obtain ⟨b,o,rfl,hb,hL⟩ := hA (by omega)
   obtain ⟨q0,q1⟩ := hL k hlt
   have r0 := (xr.cell (p := ⟨b,o + k * 2,none⟩) hb).trans q0
   have r1 := (xr.cell (p := ⟨b,o + k * 2 + 1,none⟩) hb).trans q1
   obtain ⟨n,v,hx⟩ : ∃ n v,l[k] = (n,v) := ⟨_,_,rfl⟩
   rw [hx] at hd r0 r1
   dsimp only at r0 r1
   unfold getL at hd
   dsimp only at hd
   have se := same_is n nm
   clear q0 q1 hg hR
   by_cases h0 : cmpS n nm = 0
   ·rw [decide_eq_true h0] at se
    rw [if_pos h0] at hd
    have e1 : Hid (v = R.1 ∧ true = R.2) := Lib.hid (by rw [← hd]; exact ⟨rfl,rfl⟩)
    clear hd h0
    go_wp2_with fail
    go_ret2
    exact ⟨ret2 (congrArg Value.string e1.out.1) (congrArg Value.bool e1.out.2),xr.alloc _⟩
   ·rw [decide_eq_false h0] at se
    rw [if_neg h0] at hd
    replace hd := Lib.hid hd
    clear h0
    go_wp2_with fail
    go_roundw
    case rel => exact ⟨k + 1,rfl,hlt,hd,xr.alloc _⟩
    case measure => simp only [intOf]; omega
  ·have hd := hg.out
   rw [show l.drop k = [] from List.drop_eq_nil_of_le (by omega)] at hd
   have e1 : Hid ((⟨#[]⟩ : ByteArray) = R.1 ∧ false = R.2) := Lib.hid (by rw [← hd]; exact ⟨rfl,rfl⟩)
   have hk3 : l.length ≤ k := by omega
   clear hk hd hg hR hA
   go_wp2_with fail
   go_ret2
   exact ⟨ret2 (congrArg Value.string e1.out.1) (congrArg Value.bool e1.out.2),xr⟩
def boundB (r : Int) (f : Bool) (M S : Int) : Bool :=
 if r = 1 ∧ f = false then goodB M S else if r = 2 then (!f && (goodB M S && (decide (0 ≤ M) && decide (cmpD (cM M S) (cS M S) (cM 1 0) (cS 1 0) ≤ 0)))) else ((M == 0 && S == 0) && (decide (r = 1) || !f))
def valB (kind r m s : Int) : Bool := goodB m s && (decide (0 ≤ m) || !(decide (kind = 2) || (decide (r = 1) || decide (r = 3))))
def timeB (t : Bool) (T : Int) : Bool := decide (T = 0) || (t && (decide (-1125899906842624 ≤ T) && decide (T ≤ 1125899906842624)))
def ownS (r : Int) : ByteArray := if r = 1 then ⟨#[108,101]⟩ else if r = 2 then ⟨#[113,117,97,110,116,105,108,101]⟩ else ⟨#[]⟩
def freeB (l : List (ByteArray × ByteArray)) (r : Int) : Bool := !(decide (r = 1) || decide (r = 2)) || !(getL (ownS r) l).2
theorem isBound_any (v : Value) (r : Int) (f : Bool) (M S m s : Int) (t : Bool) (T : Int) (w : World) (i : I64 M) (j : I64 S) :
  Calls Tryz.prog 111 #[ptV v r f M S m s t T] w fun e w' => e = .returned (.bool (boundB r f M S)) ∧ Ext w w' := by
 have G := fun W => Good_any M S W i j
 have C := fun W => Compare_any M S 1 0 W i j (by unfold I64; omega) (by unfold I64; omega)
 unfold boundB
 generalize cmpD (cM M S) (cS M S) (cM 1 0) (cS 1 0) = cv at *
 obtain ⟨gb,hgb⟩ : ∃ g,goodB M S = g := ⟨_,rfl⟩
 rw [hgb] at G ⊢
 clear hgb i j
 unfold decV at *
 unfold ptV
 have g1 : PtIn w.heap.size v r f M S m s t T (w.alloc (.cells #[v,.int .i64 r,.bool f,.int .i64 M,.int .i64 S,.int .i64 m,.int .i64 s,.bool t,.int .i64 T] 40)) := heap_last _ _
 have hx : Ext w (w.alloc (.cells #[v,.int .i64 r,.bool f,.int .i64 M,.int .i64 S,.int .i64 m,.int .i64 s,.bool t,.int .i64 T] 40)) := (Ext.refl _).alloc _
 obtain ⟨R,hR⟩ : ∃ R,(if r = 1 ∧ f = false then gb else if r = 2 then (!f && (gb && (decide (0 ≤ M) && decide (cv ≤ 0)))) else ((M == 0 && S == 0) && (decide (r = 1) || !f))) = R := ⟨_,rfl⟩
 rw [hR]
 by_cases h1 : r = 1
 ·subst h1
  cases f
  ·have HV : Hid (R = gb) := Lib.hid (by rw [← hR]; simp)
   clear hR
   obtain ⟨k0,k1,k2,k3,k4,k5,k6,k7,k8⟩ := g1.cells
   go_enter Tryz.func111,Tryz.ntmps111
   go_wp2_with fail
   (with_reducible refine (G _).mono ?_)
   rintro e wz0 ⟨rfl,xz0⟩
   clear k0 k1 k2 k3 k4 k5 k6 k7 k8
   replace g1 := g1.ext xz0
   replace hx := hx.trans xz0
   obtain ⟨k0,k1,k2,k3,k4,k5,k6,k7,k8⟩ := g1.cells
   go_wp2_with fail
   go_ret
   exact ⟨retB (by first | exact HV.out.symm | (rw [HV.out]; simp [*])),hx⟩
  ·by_cases hM : M = 0
   ·subst hM
    by_cases hS : S = 0
    ·subst hS
     have HV : Hid (R = true) := Lib.hid (by rw [← hR]; simp)
     clear hR
     obtain ⟨k0,k1,k2,k3,k4,k5,k6,k7,k8⟩ := g1.cells
     clear g1
     go_enter Tryz.func111,Tryz.ntmps111
     go_wp2_with fail
     go_ret
     exact ⟨retB (by first | exact HV.out.symm | (rw [HV.out]; simp [*])),hx⟩
    ·have HV : Hid (R = false) := Lib.hid (by rw [← hR]; simp [hS])
     clear hR
     obtain ⟨k0,k1,k2,k3,k4,k5,k6,k7,k8⟩ := g1.cells
     clear g1
     go_enter Tryz.func111,Tryz.ntmps111
     go_wp2_with fail
     go_ret
     exact ⟨retB (by first | exact HV.out.symm | (rw [HV.out]; simp [*])),hx⟩
   ·have HV : Hid (R = false) := Lib.hid (by rw [← hR]; simp [hM])
    clear hR
    obtain ⟨k0,k1,k2,k3,k4,k5,k6,k7,k8⟩ := g1.cells
    clear g1
    go_enter Tryz.func111,Tryz.ntmps111
    go_wp2_with fail
    go_ret
    exact ⟨retB (by first | exact HV.out.symm | (rw [HV.out]; simp [*])),hx⟩
 ·by_cases h2 : r = 2
  ·subst h2
   cases f
   ·cases gb
    ·have HV : Hid (R = false) := Lib.hid (by rw [← hR]; simp)
     clear hR h1
     obtain ⟨k0,k1,k2,k3,k4,k5,k6,k7,k8⟩ := g1.cells
     go_enter Tryz.func111,Tryz.ntmps111
     go_wp2_with fail
     (with_reducible refine (G _).mono ?_)
     rintro e wz0 ⟨rfl,xz0⟩
     clear k0 k1 k2 k3 k4 k5 k6 k7 k8
     replace g1 := g1.ext xz0
     replace hx := hx.trans xz0
     obtain ⟨k0,k1,k2,k3,k4,k5,k6,k7,k8⟩ := g1.cells
     go_wp2_with fail
     go_ret
     exact ⟨retB (by first | exact HV.out.symm | (rw [HV.out]; simp [*])),hx⟩
    ·by_cases hM : 0 ≤ M
     ·have HV : Hid (R = decide (cv ≤ 0)) := Lib.hid (by rw [← hR]; simp [hM])
      clear hR h1
      obtain ⟨k0,k1,k2,k3,k4,k5,k6,k7,k8⟩ := g1.cells
      go_enter Tryz.func111,Tryz.ntmps111
      go_wp2_with fail
      (with_reducible refine (G _).mono ?_)
      rintro e wz0 ⟨rfl,xz0⟩
      clear k0 k1 k2 k3 k4 k5 k6 k7 k8
      replace g1 := g1.ext xz0
      replace hx := hx.trans xz0
      obtain ⟨k0,k1,k2,k3,k4,k5,k6,k7,k8⟩ := g1.cells
      go_wp2_with fail
      (with_reducible refine (C _).mono ?_)
      rintro e wz1 ⟨rfl,xz1⟩
      clear k0 k1 k2 k3 k4 k5 k6 k7 k8
      replace g1 := g1.ext xz1
      replace hx := hx.trans xz1
      obtain ⟨k0,k1,k2,k3,k4,k5,k6,k7,k8⟩ := g1.cells
      go_wp2_with fail
      go_ret
      exact ⟨retB (by first | exact HV.out.symm | (rw [HV.out]; simp [*])),hx⟩
     ·have HV : Hid (R = false) := Lib.hid (by rw [← hR]; simp [hM])
      clear hR h1
      obtain ⟨k0,k1,k2,k3,k4,k5,k6,k7,k8⟩ := g1.cells
      go_enter Tryz.func111,Tryz.ntmps111
      go_wp2_with fail
      (with_reducible refine (G _).mono ?_)
      rintro e wz0 ⟨rfl,xz0⟩
      clear k0 k1 k2 k3 k4 k5 k6 k7 k8
      replace g1 := g1.ext xz0
      replace hx := hx.trans xz0
      obtain ⟨k0,k1,k2,k3,k4,k5,k6,k7,k8⟩ := g1.cells
      go_wp2_with fail
      go_ret
      exact ⟨retB (by first | exact HV.out.symm | (rw [HV.out]; simp [*])),hx⟩
   ·have HV : Hid (R = false) := Lib.hid (by rw [← hR]; simp)
    clear hR h1
    obtain ⟨k0,k1,k2,k3,k4,k5,k6,k7,k8⟩ := g1.cells
    clear g1
    go_enter Tryz.func111,Tryz.ntmps111
    go_wp2_with fail
    go_ret
    exact ⟨retB (by first | exact HV.out.symm | (rw [HV.out]; simp [*])),hx⟩
  ·cases f
   ·by_cases hM : M = 0
    ·subst hM
     by_cases hS : S = 0
     ·subst hS
      have HV : Hid (R = true) := Lib.hid (by rw [← hR]; simp [h1,h2])
      clear hR
      obtain ⟨k0,k1,k2,k3,k4,k5,k6,k7,k8⟩ := g1.cells
      clear g1
      go_enter Tryz.func111,Tryz.ntmps111
      go_wp2_with fail
      go_ret
      exact ⟨retB (by first | exact HV.out.symm | (rw [HV.out]; simp [*])),hx⟩
     ·have HV : Hid (R = false) := Lib.hid (by rw [← hR]; simp [h1,h2,hS])
      clear hR
      obtain ⟨k0,k1,k2,k3,k4,k5,k6,k7,k8⟩ := g1.cells
      clear g1
      go_enter Tryz.func111,Tryz.ntmps111
      go_wp2_with fail
      go_ret
      exact ⟨retB (by first | exact HV.out.symm | (rw [HV.out]; simp [*])),hx⟩
    ·have HV : Hid (R = false) := Lib.hid (by rw [← hR]; simp [h1,h2,hM])
     clear hR
     obtain ⟨k0,k1,k2,k3,k4,k5,k6,k7,k8⟩ := g1.cells
     clear g1
     go_enter Tryz.func111,Tryz.ntmps111
     go_wp2_with fail
     go_ret
     exact ⟨retB (by first | exact HV.out.symm | (rw [HV.out]; simp [*])),hx⟩
   ·have HV : Hid (R = false) := Lib.hid (by rw [← hR]; simp [h1,h2])
    clear hR
    by_cases hM : M = 0
    ·subst hM
     by_cases hS : S = 0
     ·subst hS
      obtain ⟨k0,k1,k2,k3,k4,k5,k6,k7,k8⟩ := g1.cells
      clear g1
      go_enter Tryz.func111,Tryz.ntmps111
      go_wp2_with fail
      go_ret
      exact ⟨retB (by first | exact HV.out.symm | (rw [HV.out]; simp [*])),hx⟩
     ·obtain ⟨k0,k1,k2,k3,k4,k5,k6,k7,k8⟩ := g1.cells
      clear g1
      go_enter Tryz.func111,Tryz.ntmps111
      go_wp2_with fail
      go_ret
      exact ⟨retB (by first | exact HV.out.symm | (rw [HV.out]; simp [*])),hx⟩
    ·obtain ⟨k0,k1,k2,k3,k4,k5,k6,k7,k8⟩ := g1.cells
     clear g1
     go_enter Tryz.func111,Tryz.ntmps111
     go_wp2_with fail
     go_ret
     exact ⟨retB (by first | exact HV.out.symm | (rw [HV.out]; simp [*])),hx⟩
theorem isValue_any (kind : Int) (v : Value) (r : Int) (f : Bool) (M S m s : Int) (t : Bool) (T : Int) (w : World) (i : I64 m) (j : I64 s) :
  Calls Tryz.prog 112 #[.int .i64 kind,ptV v r f M S m s t T] w fun e w' => e = .returned (.bool (valB kind r m s)) ∧ Ext w w' := by
 have G := fun W => Good_any m s W i j
 unfold valB
 obtain ⟨gb,hgb⟩ : ∃ g,goodB m s = g := ⟨_,rfl⟩
 rw [hgb] at G ⊢
 clear hgb i j
 unfold decV at *
 unfold ptV
 have g1 : PtIn w.heap.size v r f M S m s t T (w.alloc (.cells #[v,.int .i64 r,.bool f,.int .i64 M,.int .i64 S,.int .i64 m,.int .i64 s,.bool t,.int .i64 T] 40)) := heap_last _ _
 have hx : Ext w (w.alloc (.cells #[v,.int .i64 r,.bool f,.int .i64 M,.int .i64 S,.int .i64 m,.int .i64 s,.bool t,.int .i64 T] 40)) := (Ext.refl _).alloc _
 obtain ⟨R,hR⟩ : ∃ R,(gb && (decide (0 ≤ m) || !(decide (kind = 2) || (decide (r = 1) || decide (r = 3))))) = R := ⟨_,rfl⟩
 rw [hR]
 by_cases h1 : kind = 2
 ·subst h1
  cases gb
  ·have HV : Hid (R = false) := Lib.hid (by rw [← hR]; simp)
   clear hR
   obtain ⟨k0,k1,k2,k3,k4,k5,k6,k7,k8⟩ := g1.cells
   go_enter Tryz.func112,Tryz.ntmps112
   go_wp2_with fail
   (with_reducible refine (G _).mono ?_)
   rintro e wz0 ⟨rfl,xz0⟩
   clear k0 k1 k2 k3 k4 k5 k6 k7 k8
   replace g1 := g1.ext xz0
   replace hx := hx.trans xz0
   obtain ⟨k0,k1,k2,k3,k4,k5,k6,k7,k8⟩ := g1.cells
   go_wp2_with fail
   go_ret
   exact ⟨retB (by first | exact HV.out.symm | (rw [HV.out]; simp [*])),hx⟩
  ·by_cases hm : 0 ≤ m
   ·have HV : Hid (R = true) := Lib.hid (by rw [← hR]; simp [hm])
    clear hR
    obtain ⟨k0,k1,k2,k3,k4,k5,k6,k7,k8⟩ := g1.cells
    go_enter Tryz.func112,Tryz.ntmps112
    go_wp2_with fail
    (with_reducible refine (G _).mono ?_)
    rintro e wz0 ⟨rfl,xz0⟩
    clear k0 k1 k2 k3 k4 k5 k6 k7 k8
    replace g1 := g1.ext xz0
    replace hx := hx.trans xz0
    obtain ⟨k0,k1,k2,k3,k4,k5,k6,k7,k8⟩ := g1.cells
    go_wp2_with fail
    go_ret
    exact ⟨retB (by first | exact HV.out.symm | (rw [HV.out]; simp [*])),hx⟩
   ·have HV : Hid (R = false) := Lib.hid (by rw [← hR]; simp [hm])
    clear hR
    obtain ⟨k0,k1,k2,k3,k4,k5,k6,k7,k8⟩ := g1.cells
    go_enter Tryz.func112,Tryz.ntmps112
    go_wp2_with fail
    (with_reducible refine (G _).mono ?_)
    rintro e wz0 ⟨rfl,xz0⟩
    clear k0 k1 k2 k3 k4 k5 k6 k7 k8
    replace g1 := g1.ext xz0
    replace hx := hx.trans xz0
    obtain ⟨k0,k1,k2,k3,k4,k5,k6,k7,k8⟩ := g1.cells
    go_wp2_with fail
    go_ret
    exact ⟨retB (by first | exact HV.out.symm | (rw [HV.out]; simp [*])),hx⟩
 ·by_cases h2 : r = 1
  ·subst h2
   cases gb
   ·have HV : Hid (R = false) := Lib.hid (by rw [← hR]; simp)
    clear hR
    obtain ⟨k0,k1,k2,k3,k4,k5,k6,k7,k8⟩ := g1.cells
    go_enter Tryz.func112,Tryz.ntmps112
    go_wp2_with fail
    (with_reducible refine (G _).mono ?_)
    rintro e wz0 ⟨rfl,xz0⟩
    clear k0 k1 k2 k3 k4 k5 k6 k7 k8
    replace g1 := g1.ext xz0
    replace hx := hx.trans xz0
    obtain ⟨k0,k1,k2,k3,k4,k5,k6,k7,k8⟩ := g1.cells
    go_wp2_with fail
    go_ret
    exact ⟨retB (by first | exact HV.out.symm | (rw [HV.out]; simp [*])),hx⟩
   ·by_cases hm : 0 ≤ m
    ·have HV : Hid (R = true) := Lib.hid (by rw [← hR]; simp [hm])
     clear hR
     obtain ⟨k0,k1,k2,k3,k4,k5,k6,k7,k8⟩ := g1.cells
     go_enter Tryz.func112,Tryz.ntmps112
     go_wp2_with fail
     (with_reducible refine (G _).mono ?_)
     rintro e wz0 ⟨rfl,xz0⟩
     clear k0 k1 k2 k3 k4 k5 k6 k7 k8
     replace g1 := g1.ext xz0
     replace hx := hx.trans xz0
     obtain ⟨k0,k1,k2,k3,k4,k5,k6,k7,k8⟩ := g1.cells
     go_wp2_with fail
     go_ret
     exact ⟨retB (by first | exact HV.out.symm | (rw [HV.out]; simp [*])),hx⟩
    ·have HV : Hid (R = false) := Lib.hid (by rw [← hR]; simp [hm])
     clear hR
     obtain ⟨k0,k1,k2,k3,k4,k5,k6,k7,k8⟩ := g1.cells
     go_enter Tryz.func112,Tryz.ntmps112
     go_wp2_with fail
     (with_reducible refine (G _).mono ?_)
     rintro e wz0 ⟨rfl,xz0⟩
     clear k0 k1 k2 k3 k4 k5 k6 k7 k8
     replace g1 := g1.ext xz0
     replace hx := hx.trans xz0
     obtain ⟨k0,k1,k2,k3,k4,k5,k6,k7,k8⟩ := g1.cells
     go_wp2_with fail
     go_ret
     exact ⟨retB (by first | exact HV.out.symm | (rw [HV.out]; simp [*])),hx⟩
  ·by_cases h3 : r = 3
   ·subst h3
    clear h2
    cases gb
    ·have HV : Hid (R = false) := Lib.hid (by rw [← hR]; simp)
     clear hR
     obtain ⟨k0,k1,k2,k3,k4,k5,k6,k7,k8⟩ := g1.cells
     go_enter Tryz.func112,Tryz.ntmps112
     go_wp2_with fail
     (with_reducible refine (G _).mono ?_)
     rintro e wz0 ⟨rfl,xz0⟩
     clear k0 k1 k2 k3 k4 k5 k6 k7 k8
     replace g1 := g1.ext xz0
     replace hx := hx.trans xz0
     obtain ⟨k0,k1,k2,k3,k4,k5,k6,k7,k8⟩ := g1.cells
     go_wp2_with fail
     go_ret
     exact ⟨retB (by first | exact HV.out.symm | (rw [HV.out]; simp [*])),hx⟩
    ·by_cases hm : 0 ≤ m
     ·have HV : Hid (R = true) := Lib.hid (by rw [← hR]; simp [hm])
      clear hR
      obtain ⟨k0,k1,k2,k3,k4,k5,k6,k7,k8⟩ := g1.cells
      go_enter Tryz.func112,Tryz.ntmps112
      go_wp2_with fail
      (with_reducible refine (G _).mono ?_)
      rintro e wz0 ⟨rfl,xz0⟩
      clear k0 k1 k2 k3 k4 k5 k6 k7 k8
      replace g1 := g1.ext xz0
      replace hx := hx.trans xz0
      obtain ⟨k0,k1,k2,k3,k4,k5,k6,k7,k8⟩ := g1.cells
      go_wp2_with fail
      go_ret
      exact ⟨retB (by first | exact HV.out.symm | (rw [HV.out]; simp [*])),hx⟩
     ·have HV : Hid (R = false) := Lib.hid (by rw [← hR]; simp [hm])
      clear hR
      obtain ⟨k0,k1,k2,k3,k4,k5,k6,k7,k8⟩ := g1.cells
      go_enter Tryz.func112,Tryz.ntmps112
      go_wp2_with fail
      (with_reducible refine (G _).mono ?_)
      rintro e wz0 ⟨rfl,xz0⟩
      clear k0 k1 k2 k3 k4 k5 k6 k7 k8
      replace g1 := g1.ext xz0
      replace hx := hx.trans xz0
      obtain ⟨k0,k1,k2,k3,k4,k5,k6,k7,k8⟩ := g1.cells
      go_wp2_with fail
      go_ret
      exact ⟨retB (by first | exact HV.out.symm | (rw [HV.out]; simp [*])),hx⟩
   ·cases gb
    ·have HV : Hid (R = false) := Lib.hid (by rw [← hR]; simp)
     clear hR
     obtain ⟨k0,k1,k2,k3,k4,k5,k6,k7,k8⟩ := g1.cells
     go_enter Tryz.func112,Tryz.ntmps112
     go_wp2_with fail
     (with_reducible refine (G _).mono ?_)
     rintro e wz0 ⟨rfl,xz0⟩
     clear k0 k1 k2 k3 k4 k5 k6 k7 k8
     replace g1 := g1.ext xz0
     replace hx := hx.trans xz0
     obtain ⟨k0,k1,k2,k3,k4,k5,k6,k7,k8⟩ := g1.cells
     go_wp2_with fail
     go_ret
     exact ⟨retB (by first | exact HV.out.symm | (rw [HV.out]; simp [*])),hx⟩
    ·by_cases hm : 0 ≤ m
     ·have HV : Hid (R = true) := Lib.hid (by rw [← hR]; simp [hm])
      clear hR
      obtain ⟨k0,k1,k2,k3,k4,k5,k6,k7,k8⟩ := g1.cells
      go_enter Tryz.func112,Tryz.ntmps112
      go_wp2_with fail
      (with_reducible refine (G _).mono ?_)
      rintro e wz0 ⟨rfl,xz0⟩
      clear k0 k1 k2 k3 k4 k5 k6 k7 k8
      replace g1 := g1.ext xz0
      replace hx := hx.trans xz0
      obtain ⟨k0,k1,k2,k3,k4,k5,k6,k7,k8⟩ := g1.cells
      go_wp2_with fail
      go_ret
      exact ⟨retB (by first | exact HV.out.symm | (rw [HV.out]; simp [*])),hx⟩
     ·have HV : Hid (R = true) := Lib.hid (by rw [← hR]; simp [hm,h1,h2,h3])
      clear hR
      obtain ⟨k0,k1,k2,k3,k4,k5,k6,k7,k8⟩ := g1.cells
      go_enter Tryz.func112,Tryz.ntmps112
      go_wp2_with fail
      (with_reducible refine (G _).mono ?_)
      rintro e wz0 ⟨rfl,xz0⟩
      clear k0 k1 k2 k3 k4 k5 k6 k7 k8
      replace g1 := g1.ext xz0
      replace hx := hx.trans xz0
      obtain ⟨k0,k1,k2,k3,k4,k5,k6,k7,k8⟩ := g1.cells
      go_wp2_with fail
      go_ret
      exact ⟨retB (by first | exact HV.out.symm | (rw [HV.out]; simp [*])),hx⟩
theorem isFree_any (a : Option Addr) (c : Nat) (l : List (ByteArray × ByteArray)) (r : Int) (f : Bool) (M S m s : Int) (t : Bool) (T : Int) (w : World) (hl : (l.length : Int) ≤ 9223372036854775807) (hA : LabA a l w) :
  Calls Tryz.prog 114 #[ptV (.slice a l.length c) r f M S m s t T] w fun e w' => e = .returned (.bool (freeB l r)) ∧ Ext w w' := by
 have G := fun n W (x : Ext w W) => labGet_any a c l n W hl (hA.ext x)
 unfold freeB
 obtain ⟨v,hv⟩ : ∃ v,Value.slice a l.length c = v := ⟨_,rfl⟩
 rw [hv] at G
 rw [hv]
 clear hv hA hl
 unfold ptV
 have g1 : PtIn w.heap.size v r f M S m s t T (w.alloc (.cells #[v,.int .i64 r,.bool f,.int .i64 M,.int .i64 S,.int .i64 m,.int .i64 s,.bool t,.int .i64 T] 40)) := heap_last _ _
 have hx : Ext w (w.alloc (.cells #[v,.int .i64 r,.bool f,.int .i64 M,.int .i64 S,.int .i64 m,.int .i64 s,.bool t,.int .i64 T] 40)) := (Ext.refl _).alloc _
 obtain ⟨R,hR⟩ : ∃ R,(!(decide (r = 1) || decide (r = 2)) || !(getL (ownS r) l).2) = R := ⟨_,rfl⟩
 rw [hR]
 by_cases h1 : r = 1
 ·subst h1
  have C := fun W (x : Ext w W) => G ⟨#[108,101]⟩ W x
  have HV : Hid (R = !(getL ⟨#[108,101]⟩ l).2) := Lib.hid (by rw [← hR]; unfold ownS; simp)
  generalize (getL ⟨#[108,101]⟩ l).1 = q1 at *
  generalize (getL ⟨#[108,101]⟩ l).2 = q2 at *
  clear hR G
  obtain ⟨k0,k1,k2,k3,k4,k5,k6,k7,k8⟩ := g1.cells
  go_enter Tryz.func114,Tryz.ntmps114
  go_wp2_with fail
  (with_reducible refine (C _ hx).mono ?_)
  rintro e wz0 ⟨rfl,xz0⟩
  clear k0 k1 k2 k3 k4 k5 k6 k7 k8
  replace g1 := g1.ext xz0
  replace hx := hx.trans xz0
  obtain ⟨k0,k1,k2,k3,k4,k5,k6,k7,k8⟩ := g1.cells
  go_wp2_with fail
  go_ret
  exact ⟨retB (by first | exact HV.out.symm | (rw [HV.out]; simp [*])),hx⟩
 ·by_cases h2 : r = 2
  ·subst h2
   clear h1
   have C := fun W (x : Ext w W) => G ⟨#[113,117,97,110,116,105,108,101]⟩ W x
   have HV : Hid (R = !(getL ⟨#[113,117,97,110,116,105,108,101]⟩ l).2) := Lib.hid (by rw [← hR]; unfold ownS; simp)
   generalize (getL ⟨#[113,117,97,110,116,105,108,101]⟩ l).1 = q1 at *
   generalize (getL ⟨#[113,117,97,110,116,105,108,101]⟩ l).2 = q2 at *
   clear hR G
   obtain ⟨k0,k1,k2,k3,k4,k5,k6,k7,k8⟩ := g1.cells
   go_enter Tryz.func114,Tryz.ntmps114
   go_wp2_with fail
   (with_reducible refine (C _ hx).mono ?_)
   rintro e wz0 ⟨rfl,xz0⟩
   clear k0 k1 k2 k3 k4 k5 k6 k7 k8
   replace g1 := g1.ext xz0
   replace hx := hx.trans xz0
   obtain ⟨k0,k1,k2,k3,k4,k5,k6,k7,k8⟩ := g1.cells
   go_wp2_with fail
   go_ret
   exact ⟨retB (by first | exact HV.out.symm | (rw [HV.out]; simp [*])),hx⟩
  ·have C := fun W (x : Ext w W) => G ⟨#[]⟩ W x
   have HV : Hid (R = true) := Lib.hid (by rw [← hR]; unfold ownS; simp [h1,h2])
   generalize (getL ⟨#[]⟩ l).1 = q1 at *
   generalize (getL ⟨#[]⟩ l).2 = q2 at *
   clear hR G
   obtain ⟨k0,k1,k2,k3,k4,k5,k6,k7,k8⟩ := g1.cells
   go_enter Tryz.func114,Tryz.ntmps114
   go_wp2_with fail
   (with_reducible refine (C _ hx).mono ?_)
   rintro e wz0 ⟨rfl,xz0⟩
   clear k0 k1 k2 k3 k4 k5 k6 k7 k8
   replace g1 := g1.ext xz0
   replace hx := hx.trans xz0
   obtain ⟨k0,k1,k2,k3,k4,k5,k6,k7,k8⟩ := g1.cells
   go_wp2_with fail
   go_ret
   exact ⟨retB (by first | exact HV.out.symm | (rw [HV.out]; simp [*])),hx⟩
theorem isTime_any (v : Value) (r : Int) (f : Bool) (M S m s : Int) (t : Bool) (T : Int) (w : World) :
  Calls Tryz.prog 113 #[ptV v r f M S m s t T] w fun e w' => e = .returned (.bool (timeB t T)) ∧ Ext w w' := by
 unfold timeB
 unfold ptV
 have g1 : PtIn w.heap.size v r f M S m s t T (w.alloc (.cells #[v,.int .i64 r,.bool f,.int .i64 M,.int .i64 S,.int .i64 m,.int .i64 s,.bool t,.int .i64 T] 40)) := heap_last _ _
 have hx : Ext w (w.alloc (.cells #[v,.int .i64 r,.bool f,.int .i64 M,.int .i64 S,.int .i64 m,.int .i64 s,.bool t,.int .i64 T] 40)) := (Ext.refl _).alloc _
 obtain ⟨R,hR⟩ : ∃ R,(decide (T = 0) || (t && (decide (-1125899906842624 ≤ T) && decide (T ≤ 1125899906842624)))) = R := ⟨_,rfl⟩
 rw [hR]
 by_cases h0 : T = 0
 ·subst h0
  have HV : Hid (R = true) := Lib.hid (by rw [← hR]; simp)
  clear hR
  obtain ⟨k0,k1,k2,k3,k4,k5,k6,k7,k8⟩ := g1.cells
  clear g1
  go_enter Tryz.func113,Tryz.ntmps113
  go_wp2_with fail
  go_ret
  exact ⟨retB (by first | exact HV.out.symm | (rw [HV.out]; simp [*])),hx⟩
 ·cases t
  ·have HV : Hid (R = false) := Lib.hid (by rw [← hR]; simp [h0])
   clear hR
   obtain ⟨k0,k1,k2,k3,k4,k5,k6,k7,k8⟩ := g1.cells
   clear g1
   go_enter Tryz.func113,Tryz.ntmps113
   go_wp2_with fail
   go_ret
   exact ⟨retB (by first | exact HV.out.symm | (rw [HV.out]; simp [*])),hx⟩
  ·by_cases h1 : -1125899906842624 ≤ T
   ·have n1 : binOp .geq 2 (.int .i64 T) (.int .i64 (-1125899906842624)) = pure (.bool true) := by
     simp only [go_sem]; rw [show decide (T ≥ -1125899906842624) = true from decide_eq_true h1]
    by_cases h2 : T ≤ 1125899906842624
    ·have n2 : binOp .leq 2 (.int .i64 T) (.int .i64 1125899906842624) = pure (.bool true) := by
      simp only [go_sem]; rw [show decide (T ≤ 1125899906842624) = true from decide_eq_true h2]
     have HV : Hid (R = true) := Lib.hid (by rw [← hR]; simp [h1,h2])
     clear hR h1 h2
     obtain ⟨k0,k1,k2,k3,k4,k5,k6,k7,k8⟩ := g1.cells
     clear g1
     go_enter Tryz.func113,Tryz.ntmps113
     go_wp2_with fail
     go_ret
     exact ⟨retB (by first | exact HV.out.symm | (rw [HV.out]; simp [*])),hx⟩
    ·have n2 : binOp .leq 2 (.int .i64 T) (.int .i64 1125899906842624) = pure (.bool false) := by
      simp only [go_sem]; rw [show decide (T ≤ 1125899906842624) = false from decide_eq_false h2]
     have HV : Hid (R = false) := Lib.hid (by rw [← hR]; simp [h0,h2])
     clear hR h1 h2
     obtain ⟨k0,k1,k2,k3,k4,k5,k6,k7,k8⟩ := g1.cells
     clear g1
     go_enter Tryz.func113,Tryz.ntmps113
     go_wp2_with fail
     go_ret
     exact ⟨retB (by first | exact HV.out.symm | (rw [HV.out]; simp [*])),hx⟩
   ·have n1 : binOp .geq 2 (.int .i64 T) (.int .i64 (-1125899906842624)) = pure (.bool false) := by
     simp only [go_sem]; rw [show decide (T ≥ -1125899906842624) = false from decide_eq_false h1]
    have HV : Hid (R = false) := Lib.hid (by rw [← hR]; simp [h0,h1])
    clear hR h1
    obtain ⟨k0,k1,k2,k3,k4,k5,k6,k7,k8⟩ := g1.cells
    clear g1
    go_enter Tryz.func113,Tryz.ntmps113
    go_wp2_with fail
    go_ret
    exact ⟨retB (by first | exact HV.out.symm | (rw [HV.out]; simp [*])),hx⟩
def rolesOf (k : Int) : List Int := if k = 0 ∨ k = 1 ∨ k = 2 then [0] else if k = 3 then [1,3,4] else if k = 4 then [2,3,4] else []
def IntsV (v : Value) (l : List Int) (w : World) : Prop := (l = [] ∧ v = .slice none 0 0) ∨ ∃ b,v = .slice (some ⟨b,0,none⟩) l.length l.length ∧ b < w.heap.size ∧ IntsAt b 0 l w
theorem Roles_any (F : Nat) (k : Int) (w : World) (hF : F = 109) :
  Calls Tryz.prog F #[.int .i64 k] w fun e w' => (∃ v,e = .returned v ∧ IntsV v (rolesOf k) w') ∧ Ext w w' := by
 subst hF
 have mk : ∀ (l : List Int) (o : Obj),o = .cells (l.map fun x => Value.int .i64 x).toArray 3 → ∀ n c,n = l.length → c = l.length → (∃ v,Ending.returned (.slice (some ⟨w.heap.size,0,none⟩) n c) = .returned v ∧ IntsV v l (w.alloc o)) ∧ Ext w (w.alloc o) := by
  rintro l o rfl n c rfl rfl
  exact ⟨⟨_,rfl,.inr ⟨w.heap.size,rfl,by rw [heap_size_alloc]; omega,IntsAt.mk l (heap_last _ _)⟩⟩,(Ext.refl _).alloc _⟩
 unfold rolesOf
 by_cases h0 : k = 0
 ·subst h0
  rw [if_pos (by decide)]
  go_enter Tryz.func109,Tryz.ntmps109
  go_wp2_with fail
  go_ret
  exact mk [0] _ rfl _ _ rfl rfl
 ·by_cases h1 : k = 1
  ·subst h1
   rw [if_pos (by decide)]
   go_enter Tryz.func109,Tryz.ntmps109
   go_wp2_with fail
   go_ret
   exact mk [0] _ rfl _ _ rfl rfl
  ·by_cases h2 : k = 2
   ·subst h2
    rw [if_pos (by decide)]
    go_enter Tryz.func109,Tryz.ntmps109
    go_wp2_with fail
    go_ret
    exact mk [0] _ rfl _ _ rfl rfl
   ·rw [if_neg (by omega)]
    by_cases h3 : k = 3
    ·subst h3
     rw [if_pos rfl]
     go_enter Tryz.func109,Tryz.ntmps109
     go_wp2_with fail
     go_ret
     exact mk [1,3,4] _ rfl _ _ rfl rfl
    ·rw [if_neg h3]
     by_cases h4 : k = 4
     ·subst h4
      rw [if_pos rfl]
      go_enter Tryz.func109,Tryz.ntmps109
      go_wp2_with fail
      go_ret
      exact mk [2,3,4] _ rfl _ _ rfl rfl
     ·rw [if_neg h4]
      go_enter Tryz.func109,Tryz.ntmps109
      go_wp2_with fail
      go_ret
      exact ⟨⟨_,rfl,.inl ⟨rfl,rfl⟩⟩,Ext.refl _⟩
def idxI (x : Int) : Nat → List Int → Int
 | _,[] => -1
 | k,y :: l => if y = x then k else idxI x (k + 1) l
theorem idxI_in (x : Int) : ∀ (l : List Int) (k : Nat),(0 ≤ idxI x k l) = (x ∈ l)
 | [],k => by simp [idxI]
 | y :: l,k => by
   unfold idxI
   by_cases h : y = x
   ·rw [if_pos h]; simp [h]
   ·rw [if_neg h,idxI_in x l (k + 1)]; simp [Ne.symm h]
theorem Index_any (b o c : Nat) (l : List Int) (x : Int) (w : World) (hl : l.length < 1000000) (hc : IntsAt b o l w) :
  Calls Tryz.prog 129 #[.slice (some ⟨b,o,none⟩) l.length c,.int .i64 x] w fun e w' => e = .returned (.int .i64 (idxI x 0 l)) ∧ Ext w w' := by
 obtain ⟨R,hR⟩ : ∃ R,idxI x 0 l = R := ⟨_,rfl⟩
 rw [hR]
 go_enter Tryz.func129,Tryz.ntmps129
 go_wp2_with fail
 go_loopw [8] (fun i wr => ∃ k : Nat,i = .int .i64 k ∧ k ≤ l.length ∧ Hid (idxI x k (l.drop k) = R) ∧ wr = w) (fun i _ => l.length - (intOf i).toNat)
 case atStart => exact ⟨0,rfl,Nat.zero_le _,Lib.hid hR,rfl⟩
 case round =>
  obtain ⟨k,rfl,hk,hz,rfl⟩ := hrel
  by_cases hlt : k < l.length
  ·have g := hc k hlt
   have hd := hz.out
   rw [List.drop_eq_getElem_cons hlt] at hd
   unfold idxI at hd
   generalize l[k] = y at *
   clear hz hR
   by_cases h0 : y = x
   ·subst h0
    rw [if_pos rfl] at hd
    replace hd := Lib.hid hd
    go_wp2_with fail
    go_ret
    exact ⟨retI hd.out,Ext.refl _⟩
   ·rw [if_neg h0] at hd
    have h1 : ¬ x = y := fun e => h0 e.symm
    replace hd := Lib.hid hd
    go_wp2_with fail
    go_roundw
    case rel => exact ⟨k + 1,rfl,hlt,hd,by first | trivial | rfl⟩
    case measure => simp only [intOf]; omega
  ·have hd := hz.out
   rw [List.drop_eq_nil_of_le (by omega)] at hd
   have hk2 : l.length ≤ k := by omega
   replace hd : Hid ((-1 : Int) = R) := Lib.hid hd
   clear hz hR hk
   go_wp2_with fail
   go_ret
   exact ⟨retI hd.out,Ext.refl _⟩
theorem Index_nil (x : Int) (w : World) :
  Calls Tryz.prog 129 #[.slice none 0 0,.int .i64 x] w fun e w' => e = .returned (.int .i64 (-1)) ∧ Ext w w' := by
 go_enter Tryz.func129,Tryz.ntmps129
 go_wp2_with fail
 refine wp_loop_rounds 1 ?_
 rw [rounds_succ]
 go_wp2_with fail
 go_ret
 exact ⟨rfl,Ext.refl _⟩
theorem Contains_any (v : Value) (l : List Int) (x : Int) (w : World) (hl : l.length < 1000000) (h : IntsV v l w) :
  Calls Tryz.prog 108 #[v,.int .i64 x] w fun e w' => e = .returned (.bool (decide (x ∈ l))) ∧ Ext w w' := by
 rcases h with ⟨rfl,rfl⟩ | ⟨b,rfl,hb,h⟩
 ·go_enter Tryz.func108,Tryz.ntmps108
  go_wp2_with fail
  (with_reducible refine (Index_nil _ _).mono ?_)
  rintro e w1 ⟨rfl,x1⟩
  go_wp2_with fail
  go_ret
  exact ⟨by simp,x1⟩
 ·have C := fun W (hw : IntsAt b 0 l W) => Index_any b 0 l.length l x W hl hw
  have e1 := idxI_in x l 0
  obtain ⟨i,hi⟩ : ∃ i,idxI x 0 l = i := ⟨_,rfl⟩
  rw [hi] at C e1
  have HV : Hid (decide (x ∈ l) = decide (0 ≤ i)) := Lib.hid (by simp only [e1])
  clear hi e1
  go_enter Tryz.func108,Tryz.ntmps108
  go_wp2_with fail
  (with_reducible refine (C _ h).mono ?_)
  rintro e w1 ⟨rfl,x1⟩
  go_wp2_with fail
  go_ret
  exact ⟨retB HV.out.symm,x1⟩
def Pt1 (w : World) (b : Nat) (v : Value) (r : Int) (f : Bool) (M S m s : Int) (t : Bool) (T : Int) (W : World) : Prop := Ext w W ∧ PtIn b v r f M S m s t T W
theorem Pt1.ext {w : World} {b : Nat} {v : Value} {r : Int} {f : Bool} {M S m s : Int} {t : Bool} {T : Int} {W W' : World} (h : Pt1 w b v r f M S m s t T W) (x : Ext W W') : Pt1 w b v r f M S m s t T W' := ⟨h.1.trans x,h.2.ext x⟩
def goodPt (k : Int) (l : List (ByteArray × ByteArray)) (r : Int) (f : Bool) (M S m s : Int) (t : Bool) (T : Int) : Bool :=
 decide (r ∈ rolesOf k) && (goodLs l && (boundB r f M S && (valB k r m s && (timeB t T && freeB l r))))
theorem ptGood_any (k : Int) (a : Option Addr) (c : Nat) (l : List (ByteArray × ByteArray)) (r : Int) (f : Bool) (M S m s : Int) (t : Bool) (T : Int) (w : World)
  (hl : (l.length : Int) ≤ 9223372036854775807) (hA : LabA a l w) (hz : ∀ x ∈ l,x.1.size ≤ 9223372036854775807 ∧ x.2.size ≤ 9223372036854775807) (i1 : I64 M) (j1 : I64 S) (i2 : I64 m) (j2 : I64 s) :
  Calls Tryz.prog 79 #[.int .i64 k,ptV (.slice a l.length c) r f M S m s t T] w fun e w' => e = .returned (.bool (goodPt k l r f M S m s t T)) ∧ Ext w w' := by
 have R1 := fun W => Roles_any _ k W rfl
 have R2 := fun v W h => Contains_any v (rolesOf k) r W (by unfold rolesOf; (repeat' split) <;> decide) h
 have R3 := fun W (x : Ext w W) => labGood_any a c l W hl (hA.ext x) hz
 have R4 := fun W => isBound_any (.slice a l.length c) r f M S m s t T W i1 j1
 have R5 := fun W => isValue_any k (.slice a l.length c) r f M S m s t T W i2 j2
 have R6 := fun W => isTime_any (.slice a l.length c) r f M S m s t T W
 have R7 := fun W (x : Ext w W) => isFree_any a c l r f M S m s t T W hl (hA.ext x)
 unfold goodPt
 generalize decide (r ∈ rolesOf k) = b1 at *
 generalize goodLs l = b2 at *
 generalize boundB r f M S = b3 at *
 generalize valB k r m s = b4 at *
 generalize timeB t T = b5 at *
 generalize freeB l r = b6 at *
 generalize rolesOf k = RL at *
 obtain ⟨v,hv⟩ : ∃ v,Value.slice a l.length c = v := ⟨_,rfl⟩
 rw [hv] at R3 R4 R5 R6 R7
 rw [hv]
 unfold ptV at *
 clear hv hA hl hz i1 j1 i2 j2
 have hJ0 : Pt1 w w.heap.size v r f M S m s t T (w.alloc (.cells #[v,.int .i64 r,.bool f,.int .i64 M,.int .i64 S,.int .i64 m,.int .i64 s,.bool t,.int .i64 T] 40)) := ⟨(Ext.refl _).alloc _,heap_last _ _⟩
 cases b1
 ·go_enter Tryz.func79,Tryz.ntmps79
  go_wp2_with fail
  refine wp_region_held_drew (S := Pt1 w w.heap.size v r f M S m s t T) (by kernel_rfl) (hJ0.ext (Ext.refl _).drew) (fun hH => ?_)
  refine tk 0 rfl (by kernel_rfl) (fun _ _ _ h => h) rfl (fun w9 hS9 => by obtain ⟨k0,k1,k2,k3,k4,k5,k6,k7,k8⟩ := hS9.2.cells; go_simp; (try rfl)) hH ?_
  try simp only [Act.put,aT,aZ,aS]
  refine tk 2 rfl (by kernel_rfl) (fun _ _ _ h => h) rfl (fun w9 hS9 => by obtain ⟨k0,k1,k2,k3,k4,k5,k6,k7,k8⟩ := hS9.2.cells; go_simp; (try rfl)) hH ?_
  try simp only [Act.put,aT,aZ,aS]
  refine tk 3 rfl (by kernel_rfl) (fun _ _ _ h => h) rfl (fun w9 hS9 => by obtain ⟨k0,k1,k2,k3,k4,k5,k6,k7,k8⟩ := hS9.2.cells; go_simp; (try rfl)) hH ?_
  try simp only [Act.put,aT,aZ,aS]
  refine wR (rs := [1]) (by kernel_rfl) (by simp) (aR rfl (fun K hK => ?_) aN)
  rw [if_pos (by rfl)]
  go_simp
  go_at_call 109
  (with_reducible refine (R1 _).mono ?_)
  rintro e wz ⟨⟨u,rfl,hU⟩,xz⟩
  refine hK.out _ _ (hH.ext xz) (fun hH => ?_)
  clear hK K
  try simp only [aT,aZ,aS]
  refine wR (rs := [4]) (by kernel_rfl) (by simp) (aR rfl (fun K hK => ?_) aN)
  rw [if_pos (by rfl)]
  go_simp
  go_at_call 108
  (with_reducible refine (R2 _ _ ?hc0).mono ?_)
  case hc0 => exact hU
  rintro e wz ⟨rfl,xz⟩
  refine hK.out _ _ (hH.ext xz) (fun hH => ?_)
  clear hK K
  try simp only [aT,aZ,aS]
  refine tk 5 rfl (by kernel_rfl) (fun _ _ _ h => h) rfl (fun w9 hS9 => by obtain ⟨k0,k1,k2,k3,k4,k5,k6,k7,k8⟩ := hS9.2.cells; go_simp; (try rfl)) hH ?_
  try simp only [Act.put,aT,aZ,aS]
  refine tk0 6 rfl (by kernel_rfl) (fun _ _ _ h => h) rfl hH ?_
  try simp only [Act.put,aT,aZ,aS]
  refine tk0 7 rfl (by kernel_rfl) (fun _ _ _ h => h) rfl hH ?_
  try simp only [Act.put,aT,aZ,aS]
  refine tk0 8 rfl (by kernel_rfl) (fun _ _ _ h => h) rfl hH ?_
  try simp only [Act.put,aT,aZ,aS]
  refine tk 9 rfl (by kernel_rfl) (fun _ _ _ h => h) rfl (fun w9 hS9 => by obtain ⟨k0,k1,k2,k3,k4,k5,k6,k7,k8⟩ := hS9.2.cells; go_simp; (try rfl)) hH ?_
  try simp only [Act.put,aT,aZ,aS]
  refine tk 10 rfl (by kernel_rfl) (fun _ _ _ h => h) rfl (fun w9 hS9 => by obtain ⟨k0,k1,k2,k3,k4,k5,k6,k7,k8⟩ := hS9.2.cells; go_simp; (try rfl)) hH ?_
  try simp only [Act.put,aT,aZ,aS]
  refine tk0 11 rfl (by kernel_rfl) (fun _ _ _ h => h) rfl hH ?_
  try simp only [Act.put,aT,aZ,aS]
  refine tk0 12 rfl (by kernel_rfl) (fun _ _ _ h => h) rfl hH ?_
  try simp only [Act.put,aT,aZ,aS]
  refine tk 13 rfl (by kernel_rfl) (fun _ _ _ h => h) rfl (fun w9 hS9 => by obtain ⟨k0,k1,k2,k3,k4,k5,k6,k7,k8⟩ := hS9.2.cells; go_simp; (try rfl)) hH ?_
  try simp only [Act.put,aT,aZ,aS]
  refine tk 14 rfl (by kernel_rfl) (fun _ _ _ h => h) rfl (fun w9 hS9 => by obtain ⟨k0,k1,k2,k3,k4,k5,k6,k7,k8⟩ := hS9.2.cells; go_simp; (try rfl)) hH ?_
  try simp only [Act.put,aT,aZ,aS]
  refine tk0 15 rfl (by kernel_rfl) (fun _ _ _ h => h) rfl hH ?_
  try simp only [Act.put,aT,aZ,aS]
  refine tk0 16 rfl (by kernel_rfl) (fun _ _ _ h => h) rfl hH ?_
  try simp only [Act.put,aT,aZ,aS]
  refine tk0 17 rfl (by kernel_rfl) (fun _ _ _ h => h) rfl hH ?_
  try simp only [Act.put,aT,aZ,aS]
  refine tk 18 rfl (by kernel_rfl) (fun _ _ _ h => h) rfl (fun w9 hS9 => by obtain ⟨k0,k1,k2,k3,k4,k5,k6,k7,k8⟩ := hS9.2.cells; go_simp; (try rfl)) hH ?_
  try simp only [Act.put,aT,aZ,aS]
  refine tk 19 rfl (by kernel_rfl) (fun _ _ _ h => h) rfl (fun w9 hS9 => by obtain ⟨k0,k1,k2,k3,k4,k5,k6,k7,k8⟩ := hS9.2.cells; go_simp; (try rfl)) hH ?_
  try simp only [Act.put,aT,aZ,aS]
  refine tk0 20 rfl (by kernel_rfl) (fun _ _ _ h => h) rfl hH ?_
  try simp only [Act.put,aT,aZ,aS]
  refine tk0 21 rfl (by kernel_rfl) (fun _ _ _ h => h) rfl hH ?_
  try simp only [Act.put,aT,aZ,aS]
  refine tk 22 rfl (by kernel_rfl) (fun _ _ _ h => h) rfl (fun w9 hS9 => by obtain ⟨k0,k1,k2,k3,k4,k5,k6,k7,k8⟩ := hS9.2.cells; go_simp; (try rfl)) hH ?_
  try simp only [Act.put,aT,aZ,aS]
  refine tk 23 rfl (by kernel_rfl) (fun _ _ _ h => h) rfl (fun w9 hS9 => by obtain ⟨k0,k1,k2,k3,k4,k5,k6,k7,k8⟩ := hS9.2.cells; go_simp; (try rfl)) hH ?_
  try simp only [Act.put,aT,aZ,aS]
  refine tk0 24 rfl (by kernel_rfl) (fun _ _ _ h => h) rfl hH ?_
  try simp only [Act.put,aT,aZ,aS]
  refine tk0 25 rfl (by kernel_rfl) (fun _ _ _ h => h) rfl hH ?_
  try simp only [Act.put,aT,aZ,aS]
  refine tk 26 rfl (by kernel_rfl) (fun _ _ _ h => h) rfl (fun w9 hS9 => by obtain ⟨k0,k1,k2,k3,k4,k5,k6,k7,k8⟩ := hS9.2.cells; go_simp; (try rfl)) hH ?_
  try simp only [Act.put,aT,aZ,aS]
  refine tk 27 rfl (by kernel_rfl) (fun _ _ _ h => h) rfl (fun w9 hS9 => by obtain ⟨k0,k1,k2,k3,k4,k5,k6,k7,k8⟩ := hS9.2.cells; go_simp; (try rfl)) hH ?_
  try simp only [Act.put,aT,aZ,aS]
  refine wpAnyH_done (by kernel_rfl) ?_ _
  have xf := hH.1
  go_wp2_with fail
  go_ret
  exact ⟨by first | rfl | simp,xf⟩
 ·cases b2
  ·go_enter Tryz.func79,Tryz.ntmps79
   go_wp2_with fail
   refine wp_region_held_drew (S := Pt1 w w.heap.size v r f M S m s t T) (by kernel_rfl) (hJ0.ext (Ext.refl _).drew) (fun hH => ?_)
   refine tk 0 rfl (by kernel_rfl) (fun _ _ _ h => h) rfl (fun w9 hS9 => by obtain ⟨k0,k1,k2,k3,k4,k5,k6,k7,k8⟩ := hS9.2.cells; go_simp; (try rfl)) hH ?_
   try simp only [Act.put,aT,aZ,aS]
   refine tk 2 rfl (by kernel_rfl) (fun _ _ _ h => h) rfl (fun w9 hS9 => by obtain ⟨k0,k1,k2,k3,k4,k5,k6,k7,k8⟩ := hS9.2.cells; go_simp; (try rfl)) hH ?_
   try simp only [Act.put,aT,aZ,aS]
   refine tk 3 rfl (by kernel_rfl) (fun _ _ _ h => h) rfl (fun w9 hS9 => by obtain ⟨k0,k1,k2,k3,k4,k5,k6,k7,k8⟩ := hS9.2.cells; go_simp; (try rfl)) hH ?_
   try simp only [Act.put,aT,aZ,aS]
   refine wR (rs := [1]) (by kernel_rfl) (by simp) (aR rfl (fun K hK => ?_) aN)
   rw [if_pos (by rfl)]
   go_simp
   go_at_call 109
   (with_reducible refine (R1 _).mono ?_)
   rintro e wz ⟨⟨u,rfl,hU⟩,xz⟩
   refine hK.out _ _ (hH.ext xz) (fun hH => ?_)
   clear hK K
   try simp only [aT,aZ,aS]
   refine wR (rs := [4]) (by kernel_rfl) (by simp) (aR rfl (fun K hK => ?_) aN)
   rw [if_pos (by rfl)]
   go_simp
   go_at_call 108
   (with_reducible refine (R2 _ _ ?hc1).mono ?_)
   case hc1 => exact hU
   rintro e wz ⟨rfl,xz⟩
   refine hK.out _ _ (hH.ext xz) (fun hH => ?_)
   clear hK K
   try simp only [aT,aZ,aS]
   refine tk 5 rfl (by kernel_rfl) (fun _ _ _ h => h) rfl (fun w9 hS9 => by obtain ⟨k0,k1,k2,k3,k4,k5,k6,k7,k8⟩ := hS9.2.cells; go_simp; (try rfl)) hH ?_
   try simp only [Act.put,aT,aZ,aS]
   refine tk 6 rfl (by kernel_rfl) (fun _ _ _ h => h) rfl (fun w9 hS9 => by obtain ⟨k0,k1,k2,k3,k4,k5,k6,k7,k8⟩ := hS9.2.cells; go_simp; (try rfl)) hH ?_
   try simp only [Act.put,aT,aZ,aS]
   refine tk 7 rfl (by kernel_rfl) (fun _ _ _ h => h) rfl (fun w9 hS9 => by obtain ⟨k0,k1,k2,k3,k4,k5,k6,k7,k8⟩ := hS9.2.cells; go_simp; (try rfl)) hH ?_
   try simp only [Act.put,aT,aZ,aS]
   have hHe := hH.1
   refine wR (rs := [8]) (by kernel_rfl) (by simp) (aR rfl (fun K hK => ?_) aN)
   rw [if_pos (by rfl)]
   go_simp
   go_at_call 110
   (with_reducible refine (R3 _ hHe).mono ?_)
   rintro e wz ⟨rfl,xz⟩
   refine hK.out _ _ (hH.ext xz) (fun hH => ?_)
   clear hK K
   try simp only [aT,aZ,aS]
   clear hHe
   refine tk 9 rfl (by kernel_rfl) (fun _ _ _ h => h) rfl (fun w9 hS9 => by obtain ⟨k0,k1,k2,k3,k4,k5,k6,k7,k8⟩ := hS9.2.cells; go_simp; (try rfl)) hH ?_
   try simp only [Act.put,aT,aZ,aS]
   refine tk 10 rfl (by kernel_rfl) (fun _ _ _ h => h) rfl (fun w9 hS9 => by obtain ⟨k0,k1,k2,k3,k4,k5,k6,k7,k8⟩ := hS9.2.cells; go_simp; (try rfl)) hH ?_
   try simp only [Act.put,aT,aZ,aS]
   refine tk0 11 rfl (by kernel_rfl) (fun _ _ _ h => h) rfl hH ?_
   try simp only [Act.put,aT,aZ,aS]
   refine tk0 12 rfl (by kernel_rfl) (fun _ _ _ h => h) rfl hH ?_
   try simp only [Act.put,aT,aZ,aS]
   refine tk 13 rfl (by kernel_rfl) (fun _ _ _ h => h) rfl (fun w9 hS9 => by obtain ⟨k0,k1,k2,k3,k4,k5,k6,k7,k8⟩ := hS9.2.cells; go_simp; (try rfl)) hH ?_
   try simp only [Act.put,aT,aZ,aS]
   refine tk 14 rfl (by kernel_rfl) (fun _ _ _ h => h) rfl (fun w9 hS9 => by obtain ⟨k0,k1,k2,k3,k4,k5,k6,k7,k8⟩ := hS9.2.cells; go_simp; (try rfl)) hH ?_
   try simp only [Act.put,aT,aZ,aS]
   refine tk0 15 rfl (by kernel_rfl) (fun _ _ _ h => h) rfl hH ?_
   try simp only [Act.put,aT,aZ,aS]
   refine tk0 16 rfl (by kernel_rfl) (fun _ _ _ h => h) rfl hH ?_
   try simp only [Act.put,aT,aZ,aS]
   refine tk0 17 rfl (by kernel_rfl) (fun _ _ _ h => h) rfl hH ?_
   try simp only [Act.put,aT,aZ,aS]
   refine tk 18 rfl (by kernel_rfl) (fun _ _ _ h => h) rfl (fun w9 hS9 => by obtain ⟨k0,k1,k2,k3,k4,k5,k6,k7,k8⟩ := hS9.2.cells; go_simp; (try rfl)) hH ?_
   try simp only [Act.put,aT,aZ,aS]
   refine tk 19 rfl (by kernel_rfl) (fun _ _ _ h => h) rfl (fun w9 hS9 => by obtain ⟨k0,k1,k2,k3,k4,k5,k6,k7,k8⟩ := hS9.2.cells; go_simp; (try rfl)) hH ?_
   try simp only [Act.put,aT,aZ,aS]
   refine tk0 20 rfl (by kernel_rfl) (fun _ _ _ h => h) rfl hH ?_
   try simp only [Act.put,aT,aZ,aS]
   refine tk0 21 rfl (by kernel_rfl) (fun _ _ _ h => h) rfl hH ?_
   try simp only [Act.put,aT,aZ,aS]
   refine tk 22 rfl (by kernel_rfl) (fun _ _ _ h => h) rfl (fun w9 hS9 => by obtain ⟨k0,k1,k2,k3,k4,k5,k6,k7,k8⟩ := hS9.2.cells; go_simp; (try rfl)) hH ?_
   try simp only [Act.put,aT,aZ,aS]
   refine tk 23 rfl (by kernel_rfl) (fun _ _ _ h => h) rfl (fun w9 hS9 => by obtain ⟨k0,k1,k2,k3,k4,k5,k6,k7,k8⟩ := hS9.2.cells; go_simp; (try rfl)) hH ?_
   try simp only [Act.put,aT,aZ,aS]
   refine tk0 24 rfl (by kernel_rfl) (fun _ _ _ h => h) rfl hH ?_
   try simp only [Act.put,aT,aZ,aS]
   refine tk0 25 rfl (by kernel_rfl) (fun _ _ _ h => h) rfl hH ?_
   try simp only [Act.put,aT,aZ,aS]
   refine tk 26 rfl (by kernel_rfl) (fun _ _ _ h => h) rfl (fun w9 hS9 => by obtain ⟨k0,k1,k2,k3,k4,k5,k6,k7,k8⟩ := hS9.2.cells; go_simp; (try rfl)) hH ?_
   try simp only [Act.put,aT,aZ,aS]
   refine tk 27 rfl (by kernel_rfl) (fun _ _ _ h => h) rfl (fun w9 hS9 => by obtain ⟨k0,k1,k2,k3,k4,k5,k6,k7,k8⟩ := hS9.2.cells; go_simp; (try rfl)) hH ?_
   try simp only [Act.put,aT,aZ,aS]
   refine wpAnyH_done (by kernel_rfl) ?_ _
   have xf := hH.1
   go_wp2_with fail
   go_ret
   exact ⟨by first | rfl | simp,xf⟩
  ·cases b3
   ·go_enter Tryz.func79,Tryz.ntmps79
    go_wp2_with fail
    refine wp_region_held_drew (S := Pt1 w w.heap.size v r f M S m s t T) (by kernel_rfl) (hJ0.ext (Ext.refl _).drew) (fun hH => ?_)
    refine tk 0 rfl (by kernel_rfl) (fun _ _ _ h => h) rfl (fun w9 hS9 => by obtain ⟨k0,k1,k2,k3,k4,k5,k6,k7,k8⟩ := hS9.2.cells; go_simp; (try rfl)) hH ?_
    try simp only [Act.put,aT,aZ,aS]
    refine tk 2 rfl (by kernel_rfl) (fun _ _ _ h => h) rfl (fun w9 hS9 => by obtain ⟨k0,k1,k2,k3,k4,k5,k6,k7,k8⟩ := hS9.2.cells; go_simp; (try rfl)) hH ?_
    try simp only [Act.put,aT,aZ,aS]
    refine tk 3 rfl (by kernel_rfl) (fun _ _ _ h => h) rfl (fun w9 hS9 => by obtain ⟨k0,k1,k2,k3,k4,k5,k6,k7,k8⟩ := hS9.2.cells; go_simp; (try rfl)) hH ?_
    try simp only [Act.put,aT,aZ,aS]
    refine wR (rs := [1]) (by kernel_rfl) (by simp) (aR rfl (fun K hK => ?_) aN)
    rw [if_pos (by rfl)]
    go_simp
    go_at_call 109
    (with_reducible refine (R1 _).mono ?_)
    rintro e wz ⟨⟨u,rfl,hU⟩,xz⟩
    refine hK.out _ _ (hH.ext xz) (fun hH => ?_)
    clear hK K
    try simp only [aT,aZ,aS]
    refine wR (rs := [4]) (by kernel_rfl) (by simp) (aR rfl (fun K hK => ?_) aN)
    rw [if_pos (by rfl)]
    go_simp
    go_at_call 108
    (with_reducible refine (R2 _ _ ?hc2).mono ?_)
    case hc2 => exact hU
    rintro e wz ⟨rfl,xz⟩
    refine hK.out _ _ (hH.ext xz) (fun hH => ?_)
    clear hK K
    try simp only [aT,aZ,aS]
    refine tk 5 rfl (by kernel_rfl) (fun _ _ _ h => h) rfl (fun w9 hS9 => by obtain ⟨k0,k1,k2,k3,k4,k5,k6,k7,k8⟩ := hS9.2.cells; go_simp; (try rfl)) hH ?_
    try simp only [Act.put,aT,aZ,aS]
    refine tk 6 rfl (by kernel_rfl) (fun _ _ _ h => h) rfl (fun w9 hS9 => by obtain ⟨k0,k1,k2,k3,k4,k5,k6,k7,k8⟩ := hS9.2.cells; go_simp; (try rfl)) hH ?_
    try simp only [Act.put,aT,aZ,aS]
    refine tk 7 rfl (by kernel_rfl) (fun _ _ _ h => h) rfl (fun w9 hS9 => by obtain ⟨k0,k1,k2,k3,k4,k5,k6,k7,k8⟩ := hS9.2.cells; go_simp; (try rfl)) hH ?_
    try simp only [Act.put,aT,aZ,aS]
    have hHe := hH.1
    refine wR (rs := [8]) (by kernel_rfl) (by simp) (aR rfl (fun K hK => ?_) aN)
    rw [if_pos (by rfl)]
    go_simp
    go_at_call 110
    (with_reducible refine (R3 _ hHe).mono ?_)
    rintro e wz ⟨rfl,xz⟩
    refine hK.out _ _ (hH.ext xz) (fun hH => ?_)
    clear hK K
    try simp only [aT,aZ,aS]
    clear hHe
    refine tk 9 rfl (by kernel_rfl) (fun _ _ _ h => h) rfl (fun w9 hS9 => by obtain ⟨k0,k1,k2,k3,k4,k5,k6,k7,k8⟩ := hS9.2.cells; go_simp; (try rfl)) hH ?_
    try simp only [Act.put,aT,aZ,aS]
    refine tk 10 rfl (by kernel_rfl) (fun _ _ _ h => h) rfl (fun w9 hS9 => by obtain ⟨k0,k1,k2,k3,k4,k5,k6,k7,k8⟩ := hS9.2.cells; go_simp; (try rfl)) hH ?_
    try simp only [Act.put,aT,aZ,aS]
    refine tk 11 rfl (by kernel_rfl) (fun _ _ _ h => h) rfl (fun w9 hS9 => by obtain ⟨k0,k1,k2,k3,k4,k5,k6,k7,k8⟩ := hS9.2.cells; go_simp; (try rfl)) hH ?_
    try simp only [Act.put,aT,aZ,aS]
    refine wR (rs := [12]) (by kernel_rfl) (by simp) (aR rfl (fun K hK => ?_) aN)
    rw [if_pos (by rfl)]
    go_simp
    go_at_call 111
    (with_reducible refine (R4 _).mono ?_)
    rintro e wz ⟨rfl,xz⟩
    refine hK.out _ _ (hH.ext xz) (fun hH => ?_)
    clear hK K
    try simp only [aT,aZ,aS]
    refine tk 13 rfl (by kernel_rfl) (fun _ _ _ h => h) rfl (fun w9 hS9 => by obtain ⟨k0,k1,k2,k3,k4,k5,k6,k7,k8⟩ := hS9.2.cells; go_simp; (try rfl)) hH ?_
    try simp only [Act.put,aT,aZ,aS]
    refine tk 14 rfl (by kernel_rfl) (fun _ _ _ h => h) rfl (fun w9 hS9 => by obtain ⟨k0,k1,k2,k3,k4,k5,k6,k7,k8⟩ := hS9.2.cells; go_simp; (try rfl)) hH ?_
    try simp only [Act.put,aT,aZ,aS]
    refine tk0 15 rfl (by kernel_rfl) (fun _ _ _ h => h) rfl hH ?_
    try simp only [Act.put,aT,aZ,aS]
    refine tk0 16 rfl (by kernel_rfl) (fun _ _ _ h => h) rfl hH ?_
    try simp only [Act.put,aT,aZ,aS]
    refine tk0 17 rfl (by kernel_rfl) (fun _ _ _ h => h) rfl hH ?_
    try simp only [Act.put,aT,aZ,aS]
    refine tk 18 rfl (by kernel_rfl) (fun _ _ _ h => h) rfl (fun w9 hS9 => by obtain ⟨k0,k1,k2,k3,k4,k5,k6,k7,k8⟩ := hS9.2.cells; go_simp; (try rfl)) hH ?_
    try simp only [Act.put,aT,aZ,aS]
    refine tk 19 rfl (by kernel_rfl) (fun _ _ _ h => h) rfl (fun w9 hS9 => by obtain ⟨k0,k1,k2,k3,k4,k5,k6,k7,k8⟩ := hS9.2.cells; go_simp; (try rfl)) hH ?_
    try simp only [Act.put,aT,aZ,aS]
    refine tk0 20 rfl (by kernel_rfl) (fun _ _ _ h => h) rfl hH ?_
    try simp only [Act.put,aT,aZ,aS]
    refine tk0 21 rfl (by kernel_rfl) (fun _ _ _ h => h) rfl hH ?_
    try simp only [Act.put,aT,aZ,aS]
    refine tk 22 rfl (by kernel_rfl) (fun _ _ _ h => h) rfl (fun w9 hS9 => by obtain ⟨k0,k1,k2,k3,k4,k5,k6,k7,k8⟩ := hS9.2.cells; go_simp; (try rfl)) hH ?_
    try simp only [Act.put,aT,aZ,aS]
    refine tk 23 rfl (by kernel_rfl) (fun _ _ _ h => h) rfl (fun w9 hS9 => by obtain ⟨k0,k1,k2,k3,k4,k5,k6,k7,k8⟩ := hS9.2.cells; go_simp; (try rfl)) hH ?_
    try simp only [Act.put,aT,aZ,aS]
    refine tk0 24 rfl (by kernel_rfl) (fun _ _ _ h => h) rfl hH ?_
    try simp only [Act.put,aT,aZ,aS]
    refine tk0 25 rfl (by kernel_rfl) (fun _ _ _ h => h) rfl hH ?_
    try simp only [Act.put,aT,aZ,aS]
    refine tk 26 rfl (by kernel_rfl) (fun _ _ _ h => h) rfl (fun w9 hS9 => by obtain ⟨k0,k1,k2,k3,k4,k5,k6,k7,k8⟩ := hS9.2.cells; go_simp; (try rfl)) hH ?_
    try simp only [Act.put,aT,aZ,aS]
    refine tk 27 rfl (by kernel_rfl) (fun _ _ _ h => h) rfl (fun w9 hS9 => by obtain ⟨k0,k1,k2,k3,k4,k5,k6,k7,k8⟩ := hS9.2.cells; go_simp; (try rfl)) hH ?_
    try simp only [Act.put,aT,aZ,aS]
    refine wpAnyH_done (by kernel_rfl) ?_ _
    have xf := hH.1
    go_wp2_with fail
    go_ret
    exact ⟨by first | rfl | simp,xf⟩
   ·cases b4
    ·go_enter Tryz.func79,Tryz.ntmps79
     go_wp2_with fail
     refine wp_region_held_drew (S := Pt1 w w.heap.size v r f M S m s t T) (by kernel_rfl) (hJ0.ext (Ext.refl _).drew) (fun hH => ?_)
     refine tk 0 rfl (by kernel_rfl) (fun _ _ _ h => h) rfl (fun w9 hS9 => by obtain ⟨k0,k1,k2,k3,k4,k5,k6,k7,k8⟩ := hS9.2.cells; go_simp; (try rfl)) hH ?_
     try simp only [Act.put,aT,aZ,aS]
     refine tk 2 rfl (by kernel_rfl) (fun _ _ _ h => h) rfl (fun w9 hS9 => by obtain ⟨k0,k1,k2,k3,k4,k5,k6,k7,k8⟩ := hS9.2.cells; go_simp; (try rfl)) hH ?_
     try simp only [Act.put,aT,aZ,aS]
     refine tk 3 rfl (by kernel_rfl) (fun _ _ _ h => h) rfl (fun w9 hS9 => by obtain ⟨k0,k1,k2,k3,k4,k5,k6,k7,k8⟩ := hS9.2.cells; go_simp; (try rfl)) hH ?_
     try simp only [Act.put,aT,aZ,aS]
     refine wR (rs := [1]) (by kernel_rfl) (by simp) (aR rfl (fun K hK => ?_) aN)
     rw [if_pos (by rfl)]
     go_simp
     go_at_call 109
     (with_reducible refine (R1 _).mono ?_)
     rintro e wz ⟨⟨u,rfl,hU⟩,xz⟩
     refine hK.out _ _ (hH.ext xz) (fun hH => ?_)
     clear hK K
     try simp only [aT,aZ,aS]
     refine wR (rs := [4]) (by kernel_rfl) (by simp) (aR rfl (fun K hK => ?_) aN)
     rw [if_pos (by rfl)]
     go_simp
     go_at_call 108
     (with_reducible refine (R2 _ _ ?hc3).mono ?_)
     case hc3 => exact hU
     rintro e wz ⟨rfl,xz⟩
     refine hK.out _ _ (hH.ext xz) (fun hH => ?_)
     clear hK K
     try simp only [aT,aZ,aS]
     refine tk 5 rfl (by kernel_rfl) (fun _ _ _ h => h) rfl (fun w9 hS9 => by obtain ⟨k0,k1,k2,k3,k4,k5,k6,k7,k8⟩ := hS9.2.cells; go_simp; (try rfl)) hH ?_
     try simp only [Act.put,aT,aZ,aS]
     refine tk 6 rfl (by kernel_rfl) (fun _ _ _ h => h) rfl (fun w9 hS9 => by obtain ⟨k0,k1,k2,k3,k4,k5,k6,k7,k8⟩ := hS9.2.cells; go_simp; (try rfl)) hH ?_
     try simp only [Act.put,aT,aZ,aS]
     refine tk 7 rfl (by kernel_rfl) (fun _ _ _ h => h) rfl (fun w9 hS9 => by obtain ⟨k0,k1,k2,k3,k4,k5,k6,k7,k8⟩ := hS9.2.cells; go_simp; (try rfl)) hH ?_
     try simp only [Act.put,aT,aZ,aS]
     have hHe := hH.1
     refine wR (rs := [8]) (by kernel_rfl) (by simp) (aR rfl (fun K hK => ?_) aN)
     rw [if_pos (by rfl)]
     go_simp
     go_at_call 110
     (with_reducible refine (R3 _ hHe).mono ?_)
     rintro e wz ⟨rfl,xz⟩
     refine hK.out _ _ (hH.ext xz) (fun hH => ?_)
     clear hK K
     try simp only [aT,aZ,aS]
     clear hHe
     refine tk 9 rfl (by kernel_rfl) (fun _ _ _ h => h) rfl (fun w9 hS9 => by obtain ⟨k0,k1,k2,k3,k4,k5,k6,k7,k8⟩ := hS9.2.cells; go_simp; (try rfl)) hH ?_
     try simp only [Act.put,aT,aZ,aS]
     refine tk 10 rfl (by kernel_rfl) (fun _ _ _ h => h) rfl (fun w9 hS9 => by obtain ⟨k0,k1,k2,k3,k4,k5,k6,k7,k8⟩ := hS9.2.cells; go_simp; (try rfl)) hH ?_
     try simp only [Act.put,aT,aZ,aS]
     refine tk 11 rfl (by kernel_rfl) (fun _ _ _ h => h) rfl (fun w9 hS9 => by obtain ⟨k0,k1,k2,k3,k4,k5,k6,k7,k8⟩ := hS9.2.cells; go_simp; (try rfl)) hH ?_
     try simp only [Act.put,aT,aZ,aS]
     refine wR (rs := [12]) (by kernel_rfl) (by simp) (aR rfl (fun K hK => ?_) aN)
     rw [if_pos (by rfl)]
     go_simp
     go_at_call 111
     (with_reducible refine (R4 _).mono ?_)
     rintro e wz ⟨rfl,xz⟩
     refine hK.out _ _ (hH.ext xz) (fun hH => ?_)
     clear hK K
     try simp only [aT,aZ,aS]
     refine tk 13 rfl (by kernel_rfl) (fun _ _ _ h => h) rfl (fun w9 hS9 => by obtain ⟨k0,k1,k2,k3,k4,k5,k6,k7,k8⟩ := hS9.2.cells; go_simp; (try rfl)) hH ?_
     try simp only [Act.put,aT,aZ,aS]
     refine tk 14 rfl (by kernel_rfl) (fun _ _ _ h => h) rfl (fun w9 hS9 => by obtain ⟨k0,k1,k2,k3,k4,k5,k6,k7,k8⟩ := hS9.2.cells; go_simp; (try rfl)) hH ?_
     try simp only [Act.put,aT,aZ,aS]
     refine tk 15 rfl (by kernel_rfl) (fun _ _ _ h => h) rfl (fun w9 hS9 => by obtain ⟨k0,k1,k2,k3,k4,k5,k6,k7,k8⟩ := hS9.2.cells; go_simp; (try rfl)) hH ?_
     try simp only [Act.put,aT,aZ,aS]
     refine tk 16 rfl (by kernel_rfl) (fun _ _ _ h => h) rfl (fun w9 hS9 => by obtain ⟨k0,k1,k2,k3,k4,k5,k6,k7,k8⟩ := hS9.2.cells; go_simp; (try rfl)) hH ?_
     try simp only [Act.put,aT,aZ,aS]
     refine wR (rs := [17]) (by kernel_rfl) (by simp) (aR rfl (fun K hK => ?_) aN)
     rw [if_pos (by rfl)]
     go_simp
     go_at_call 112
     (with_reducible refine (R5 _).mono ?_)
     rintro e wz ⟨rfl,xz⟩
     refine hK.out _ _ (hH.ext xz) (fun hH => ?_)
     clear hK K
     try simp only [aT,aZ,aS]
     refine tk 18 rfl (by kernel_rfl) (fun _ _ _ h => h) rfl (fun w9 hS9 => by obtain ⟨k0,k1,k2,k3,k4,k5,k6,k7,k8⟩ := hS9.2.cells; go_simp; (try rfl)) hH ?_
     try simp only [Act.put,aT,aZ,aS]
     refine tk 19 rfl (by kernel_rfl) (fun _ _ _ h => h) rfl (fun w9 hS9 => by obtain ⟨k0,k1,k2,k3,k4,k5,k6,k7,k8⟩ := hS9.2.cells; go_simp; (try rfl)) hH ?_
     try simp only [Act.put,aT,aZ,aS]
     refine tk0 20 rfl (by kernel_rfl) (fun _ _ _ h => h) rfl hH ?_
     try simp only [Act.put,aT,aZ,aS]
     refine tk0 21 rfl (by kernel_rfl) (fun _ _ _ h => h) rfl hH ?_
     try simp only [Act.put,aT,aZ,aS]
     refine tk 22 rfl (by kernel_rfl) (fun _ _ _ h => h) rfl (fun w9 hS9 => by obtain ⟨k0,k1,k2,k3,k4,k5,k6,k7,k8⟩ := hS9.2.cells; go_simp; (try rfl)) hH ?_
     try simp only [Act.put,aT,aZ,aS]
     refine tk 23 rfl (by kernel_rfl) (fun _ _ _ h => h) rfl (fun w9 hS9 => by obtain ⟨k0,k1,k2,k3,k4,k5,k6,k7,k8⟩ := hS9.2.cells; go_simp; (try rfl)) hH ?_
     try simp only [Act.put,aT,aZ,aS]
     refine tk0 24 rfl (by kernel_rfl) (fun _ _ _ h => h) rfl hH ?_
     try simp only [Act.put,aT,aZ,aS]
     refine tk0 25 rfl (by kernel_rfl) (fun _ _ _ h => h) rfl hH ?_
     try simp only [Act.put,aT,aZ,aS]
     refine tk 26 rfl (by kernel_rfl) (fun _ _ _ h => h) rfl (fun w9 hS9 => by obtain ⟨k0,k1,k2,k3,k4,k5,k6,k7,k8⟩ := hS9.2.cells; go_simp; (try rfl)) hH ?_
     try simp only [Act.put,aT,aZ,aS]
     refine tk 27 rfl (by kernel_rfl) (fun _ _ _ h => h) rfl (fun w9 hS9 => by obtain ⟨k0,k1,k2,k3,k4,k5,k6,k7,k8⟩ := hS9.2.cells; go_simp; (try rfl)) hH ?_
     try simp only [Act.put,aT,aZ,aS]
     refine wpAnyH_done (by kernel_rfl) ?_ _
     have xf := hH.1
     go_wp2_with fail
     go_ret
     exact ⟨by first | rfl | simp,xf⟩
    ·cases b5
     ·go_enter Tryz.func79,Tryz.ntmps79
      go_wp2_with fail
      refine wp_region_held_drew (S := Pt1 w w.heap.size v r f M S m s t T) (by kernel_rfl) (hJ0.ext (Ext.refl _).drew) (fun hH => ?_)
      refine tk 0 rfl (by kernel_rfl) (fun _ _ _ h => h) rfl (fun w9 hS9 => by obtain ⟨k0,k1,k2,k3,k4,k5,k6,k7,k8⟩ := hS9.2.cells; go_simp; (try rfl)) hH ?_
      try simp only [Act.put,aT,aZ,aS]
      refine tk 2 rfl (by kernel_rfl) (fun _ _ _ h => h) rfl (fun w9 hS9 => by obtain ⟨k0,k1,k2,k3,k4,k5,k6,k7,k8⟩ := hS9.2.cells; go_simp; (try rfl)) hH ?_
      try simp only [Act.put,aT,aZ,aS]
      refine tk 3 rfl (by kernel_rfl) (fun _ _ _ h => h) rfl (fun w9 hS9 => by obtain ⟨k0,k1,k2,k3,k4,k5,k6,k7,k8⟩ := hS9.2.cells; go_simp; (try rfl)) hH ?_
      try simp only [Act.put,aT,aZ,aS]
      refine wR (rs := [1]) (by kernel_rfl) (by simp) (aR rfl (fun K hK => ?_) aN)
      rw [if_pos (by rfl)]
      go_simp
      go_at_call 109
      (with_reducible refine (R1 _).mono ?_)
      rintro e wz ⟨⟨u,rfl,hU⟩,xz⟩
      refine hK.out _ _ (hH.ext xz) (fun hH => ?_)
      clear hK K
      try simp only [aT,aZ,aS]
      refine wR (rs := [4]) (by kernel_rfl) (by simp) (aR rfl (fun K hK => ?_) aN)
      rw [if_pos (by rfl)]
      go_simp
      go_at_call 108
      (with_reducible refine (R2 _ _ ?hc4).mono ?_)
      case hc4 => exact hU
      rintro e wz ⟨rfl,xz⟩
      refine hK.out _ _ (hH.ext xz) (fun hH => ?_)
      clear hK K
      try simp only [aT,aZ,aS]
      refine tk 5 rfl (by kernel_rfl) (fun _ _ _ h => h) rfl (fun w9 hS9 => by obtain ⟨k0,k1,k2,k3,k4,k5,k6,k7,k8⟩ := hS9.2.cells; go_simp; (try rfl)) hH ?_
      try simp only [Act.put,aT,aZ,aS]
      refine tk 6 rfl (by kernel_rfl) (fun _ _ _ h => h) rfl (fun w9 hS9 => by obtain ⟨k0,k1,k2,k3,k4,k5,k6,k7,k8⟩ := hS9.2.cells; go_simp; (try rfl)) hH ?_
      try simp only [Act.put,aT,aZ,aS]
      refine tk 7 rfl (by kernel_rfl) (fun _ _ _ h => h) rfl (fun w9 hS9 => by obtain ⟨k0,k1,k2,k3,k4,k5,k6,k7,k8⟩ := hS9.2.cells; go_simp; (try rfl)) hH ?_
      try simp only [Act.put,aT,aZ,aS]
      have hHe := hH.1
      refine wR (rs := [8]) (by kernel_rfl) (by simp) (aR rfl (fun K hK => ?_) aN)
      rw [if_pos (by rfl)]
      go_simp
      go_at_call 110
      (with_reducible refine (R3 _ hHe).mono ?_)
      rintro e wz ⟨rfl,xz⟩
      refine hK.out _ _ (hH.ext xz) (fun hH => ?_)
      clear hK K
      try simp only [aT,aZ,aS]
      clear hHe
      refine tk 9 rfl (by kernel_rfl) (fun _ _ _ h => h) rfl (fun w9 hS9 => by obtain ⟨k0,k1,k2,k3,k4,k5,k6,k7,k8⟩ := hS9.2.cells; go_simp; (try rfl)) hH ?_
      try simp only [Act.put,aT,aZ,aS]
      refine tk 10 rfl (by kernel_rfl) (fun _ _ _ h => h) rfl (fun w9 hS9 => by obtain ⟨k0,k1,k2,k3,k4,k5,k6,k7,k8⟩ := hS9.2.cells; go_simp; (try rfl)) hH ?_
      try simp only [Act.put,aT,aZ,aS]
      refine tk 11 rfl (by kernel_rfl) (fun _ _ _ h => h) rfl (fun w9 hS9 => by obtain ⟨k0,k1,k2,k3,k4,k5,k6,k7,k8⟩ := hS9.2.cells; go_simp; (try rfl)) hH ?_
      try simp only [Act.put,aT,aZ,aS]
      refine wR (rs := [12]) (by kernel_rfl) (by simp) (aR rfl (fun K hK => ?_) aN)
      rw [if_pos (by rfl)]
      go_simp
      go_at_call 111
      (with_reducible refine (R4 _).mono ?_)
      rintro e wz ⟨rfl,xz⟩
      refine hK.out _ _ (hH.ext xz) (fun hH => ?_)
      clear hK K
      try simp only [aT,aZ,aS]
      refine tk 13 rfl (by kernel_rfl) (fun _ _ _ h => h) rfl (fun w9 hS9 => by obtain ⟨k0,k1,k2,k3,k4,k5,k6,k7,k8⟩ := hS9.2.cells; go_simp; (try rfl)) hH ?_
      try simp only [Act.put,aT,aZ,aS]
      refine tk 14 rfl (by kernel_rfl) (fun _ _ _ h => h) rfl (fun w9 hS9 => by obtain ⟨k0,k1,k2,k3,k4,k5,k6,k7,k8⟩ := hS9.2.cells; go_simp; (try rfl)) hH ?_
      try simp only [Act.put,aT,aZ,aS]
      refine tk 15 rfl (by kernel_rfl) (fun _ _ _ h => h) rfl (fun w9 hS9 => by obtain ⟨k0,k1,k2,k3,k4,k5,k6,k7,k8⟩ := hS9.2.cells; go_simp; (try rfl)) hH ?_
      try simp only [Act.put,aT,aZ,aS]
      refine tk 16 rfl (by kernel_rfl) (fun _ _ _ h => h) rfl (fun w9 hS9 => by obtain ⟨k0,k1,k2,k3,k4,k5,k6,k7,k8⟩ := hS9.2.cells; go_simp; (try rfl)) hH ?_
      try simp only [Act.put,aT,aZ,aS]
      refine wR (rs := [17]) (by kernel_rfl) (by simp) (aR rfl (fun K hK => ?_) aN)
      rw [if_pos (by rfl)]
      go_simp
      go_at_call 112
      (with_reducible refine (R5 _).mono ?_)
      rintro e wz ⟨rfl,xz⟩
      refine hK.out _ _ (hH.ext xz) (fun hH => ?_)
      clear hK K
      try simp only [aT,aZ,aS]
      refine tk 18 rfl (by kernel_rfl) (fun _ _ _ h => h) rfl (fun w9 hS9 => by obtain ⟨k0,k1,k2,k3,k4,k5,k6,k7,k8⟩ := hS9.2.cells; go_simp; (try rfl)) hH ?_
      try simp only [Act.put,aT,aZ,aS]
      refine tk 19 rfl (by kernel_rfl) (fun _ _ _ h => h) rfl (fun w9 hS9 => by obtain ⟨k0,k1,k2,k3,k4,k5,k6,k7,k8⟩ := hS9.2.cells; go_simp; (try rfl)) hH ?_
      try simp only [Act.put,aT,aZ,aS]
      refine tk 20 rfl (by kernel_rfl) (fun _ _ _ h => h) rfl (fun w9 hS9 => by obtain ⟨k0,k1,k2,k3,k4,k5,k6,k7,k8⟩ := hS9.2.cells; go_simp; (try rfl)) hH ?_
      try simp only [Act.put,aT,aZ,aS]
      refine wR (rs := [21]) (by kernel_rfl) (by simp) (aR rfl (fun K hK => ?_) aN)
      rw [if_pos (by rfl)]
      go_simp
      go_at_call 113
      (with_reducible refine (R6 _).mono ?_)
      rintro e wz ⟨rfl,xz⟩
      refine hK.out _ _ (hH.ext xz) (fun hH => ?_)
      clear hK K
      try simp only [aT,aZ,aS]
      refine tk 22 rfl (by kernel_rfl) (fun _ _ _ h => h) rfl (fun w9 hS9 => by obtain ⟨k0,k1,k2,k3,k4,k5,k6,k7,k8⟩ := hS9.2.cells; go_simp; (try rfl)) hH ?_
      try simp only [Act.put,aT,aZ,aS]
      refine tk 23 rfl (by kernel_rfl) (fun _ _ _ h => h) rfl (fun w9 hS9 => by obtain ⟨k0,k1,k2,k3,k4,k5,k6,k7,k8⟩ := hS9.2.cells; go_simp; (try rfl)) hH ?_
      try simp only [Act.put,aT,aZ,aS]
      refine tk0 24 rfl (by kernel_rfl) (fun _ _ _ h => h) rfl hH ?_
      try simp only [Act.put,aT,aZ,aS]
      refine tk0 25 rfl (by kernel_rfl) (fun _ _ _ h => h) rfl hH ?_
      try simp only [Act.put,aT,aZ,aS]
      refine tk 26 rfl (by kernel_rfl) (fun _ _ _ h => h) rfl (fun w9 hS9 => by obtain ⟨k0,k1,k2,k3,k4,k5,k6,k7,k8⟩ := hS9.2.cells; go_simp; (try rfl)) hH ?_
      try simp only [Act.put,aT,aZ,aS]
      refine tk 27 rfl (by kernel_rfl) (fun _ _ _ h => h) rfl (fun w9 hS9 => by obtain ⟨k0,k1,k2,k3,k4,k5,k6,k7,k8⟩ := hS9.2.cells; go_simp; (try rfl)) hH ?_
      try simp only [Act.put,aT,aZ,aS]
      refine wpAnyH_done (by kernel_rfl) ?_ _
      have xf := hH.1
      go_wp2_with fail
      go_ret
      exact ⟨by first | rfl | simp,xf⟩
     ·go_enter Tryz.func79,Tryz.ntmps79
      go_wp2_with fail
      refine wp_region_held_drew (S := Pt1 w w.heap.size v r f M S m s t T) (by kernel_rfl) (hJ0.ext (Ext.refl _).drew) (fun hH => ?_)
      refine tk 0 rfl (by kernel_rfl) (fun _ _ _ h => h) rfl (fun w9 hS9 => by obtain ⟨k0,k1,k2,k3,k4,k5,k6,k7,k8⟩ := hS9.2.cells; go_simp; (try rfl)) hH ?_
      try simp only [Act.put,aT,aZ,aS]
      refine tk 2 rfl (by kernel_rfl) (fun _ _ _ h => h) rfl (fun w9 hS9 => by obtain ⟨k0,k1,k2,k3,k4,k5,k6,k7,k8⟩ := hS9.2.cells; go_simp; (try rfl)) hH ?_
      try simp only [Act.put,aT,aZ,aS]
      refine tk 3 rfl (by kernel_rfl) (fun _ _ _ h => h) rfl (fun w9 hS9 => by obtain ⟨k0,k1,k2,k3,k4,k5,k6,k7,k8⟩ := hS9.2.cells; go_simp; (try rfl)) hH ?_
      try simp only [Act.put,aT,aZ,aS]
      refine wR (rs := [1]) (by kernel_rfl) (by simp) (aR rfl (fun K hK => ?_) aN)
      rw [if_pos (by rfl)]
      go_simp
      go_at_call 109
      (with_reducible refine (R1 _).mono ?_)
      rintro e wz ⟨⟨u,rfl,hU⟩,xz⟩
      refine hK.out _ _ (hH.ext xz) (fun hH => ?_)
      clear hK K
      try simp only [aT,aZ,aS]
      refine wR (rs := [4]) (by kernel_rfl) (by simp) (aR rfl (fun K hK => ?_) aN)
      rw [if_pos (by rfl)]
      go_simp
      go_at_call 108
      (with_reducible refine (R2 _ _ ?hc5).mono ?_)
      case hc5 => exact hU
      rintro e wz ⟨rfl,xz⟩
      refine hK.out _ _ (hH.ext xz) (fun hH => ?_)
      clear hK K
      try simp only [aT,aZ,aS]
      refine tk 5 rfl (by kernel_rfl) (fun _ _ _ h => h) rfl (fun w9 hS9 => by obtain ⟨k0,k1,k2,k3,k4,k5,k6,k7,k8⟩ := hS9.2.cells; go_simp; (try rfl)) hH ?_
      try simp only [Act.put,aT,aZ,aS]
      refine tk 6 rfl (by kernel_rfl) (fun _ _ _ h => h) rfl (fun w9 hS9 => by obtain ⟨k0,k1,k2,k3,k4,k5,k6,k7,k8⟩ := hS9.2.cells; go_simp; (try rfl)) hH ?_
      try simp only [Act.put,aT,aZ,aS]
      refine tk 7 rfl (by kernel_rfl) (fun _ _ _ h => h) rfl (fun w9 hS9 => by obtain ⟨k0,k1,k2,k3,k4,k5,k6,k7,k8⟩ := hS9.2.cells; go_simp; (try rfl)) hH ?_
      try simp only [Act.put,aT,aZ,aS]
      have hHe := hH.1
      refine wR (rs := [8]) (by kernel_rfl) (by simp) (aR rfl (fun K hK => ?_) aN)
      rw [if_pos (by rfl)]
      go_simp
      go_at_call 110
      (with_reducible refine (R3 _ hHe).mono ?_)
      rintro e wz ⟨rfl,xz⟩
      refine hK.out _ _ (hH.ext xz) (fun hH => ?_)
      clear hK K
      try simp only [aT,aZ,aS]
      clear hHe
      refine tk 9 rfl (by kernel_rfl) (fun _ _ _ h => h) rfl (fun w9 hS9 => by obtain ⟨k0,k1,k2,k3,k4,k5,k6,k7,k8⟩ := hS9.2.cells; go_simp; (try rfl)) hH ?_
      try simp only [Act.put,aT,aZ,aS]
      refine tk 10 rfl (by kernel_rfl) (fun _ _ _ h => h) rfl (fun w9 hS9 => by obtain ⟨k0,k1,k2,k3,k4,k5,k6,k7,k8⟩ := hS9.2.cells; go_simp; (try rfl)) hH ?_
      try simp only [Act.put,aT,aZ,aS]
      refine tk 11 rfl (by kernel_rfl) (fun _ _ _ h => h) rfl (fun w9 hS9 => by obtain ⟨k0,k1,k2,k3,k4,k5,k6,k7,k8⟩ := hS9.2.cells; go_simp; (try rfl)) hH ?_
      try simp only [Act.put,aT,aZ,aS]
      refine wR (rs := [12]) (by kernel_rfl) (by simp) (aR rfl (fun K hK => ?_) aN)
      rw [if_pos (by rfl)]
      go_simp
      go_at_call 111
      (with_reducible refine (R4 _).mono ?_)
      rintro e wz ⟨rfl,xz⟩
      refine hK.out _ _ (hH.ext xz) (fun hH => ?_)
      clear hK K
      try simp only [aT,aZ,aS]
      refine tk 13 rfl (by kernel_rfl) (fun _ _ _ h => h) rfl (fun w9 hS9 => by obtain ⟨k0,k1,k2,k3,k4,k5,k6,k7,k8⟩ := hS9.2.cells; go_simp; (try rfl)) hH ?_
      try simp only [Act.put,aT,aZ,aS]
      refine tk 14 rfl (by kernel_rfl) (fun _ _ _ h => h) rfl (fun w9 hS9 => by obtain ⟨k0,k1,k2,k3,k4,k5,k6,k7,k8⟩ := hS9.2.cells; go_simp; (try rfl)) hH ?_
      try simp only [Act.put,aT,aZ,aS]
      refine tk 15 rfl (by kernel_rfl) (fun _ _ _ h => h) rfl (fun w9 hS9 => by obtain ⟨k0,k1,k2,k3,k4,k5,k6,k7,k8⟩ := hS9.2.cells; go_simp; (try rfl)) hH ?_
      try simp only [Act.put,aT,aZ,aS]
      refine tk 16 rfl (by kernel_rfl) (fun _ _ _ h => h) rfl (fun w9 hS9 => by obtain ⟨k0,k1,k2,k3,k4,k5,k6,k7,k8⟩ := hS9.2.cells; go_simp; (try rfl)) hH ?_
      try simp only [Act.put,aT,aZ,aS]
      refine wR (rs := [17]) (by kernel_rfl) (by simp) (aR rfl (fun K hK => ?_) aN)
      rw [if_pos (by rfl)]
      go_simp
      go_at_call 112
      (with_reducible refine (R5 _).mono ?_)
      rintro e wz ⟨rfl,xz⟩
      refine hK.out _ _ (hH.ext xz) (fun hH => ?_)
      clear hK K
      try simp only [aT,aZ,aS]
      refine tk 18 rfl (by kernel_rfl) (fun _ _ _ h => h) rfl (fun w9 hS9 => by obtain ⟨k0,k1,k2,k3,k4,k5,k6,k7,k8⟩ := hS9.2.cells; go_simp; (try rfl)) hH ?_
      try simp only [Act.put,aT,aZ,aS]
      refine tk 19 rfl (by kernel_rfl) (fun _ _ _ h => h) rfl (fun w9 hS9 => by obtain ⟨k0,k1,k2,k3,k4,k5,k6,k7,k8⟩ := hS9.2.cells; go_simp; (try rfl)) hH ?_
      try simp only [Act.put,aT,aZ,aS]
      refine tk 20 rfl (by kernel_rfl) (fun _ _ _ h => h) rfl (fun w9 hS9 => by obtain ⟨k0,k1,k2,k3,k4,k5,k6,k7,k8⟩ := hS9.2.cells; go_simp; (try rfl)) hH ?_
      try simp only [Act.put,aT,aZ,aS]
      refine wR (rs := [21]) (by kernel_rfl) (by simp) (aR rfl (fun K hK => ?_) aN)
      rw [if_pos (by rfl)]
      go_simp
      go_at_call 113
      (with_reducible refine (R6 _).mono ?_)
      rintro e wz ⟨rfl,xz⟩
      refine hK.out _ _ (hH.ext xz) (fun hH => ?_)
      clear hK K
      try simp only [aT,aZ,aS]
      refine tk 22 rfl (by kernel_rfl) (fun _ _ _ h => h) rfl (fun w9 hS9 => by obtain ⟨k0,k1,k2,k3,k4,k5,k6,k7,k8⟩ := hS9.2.cells; go_simp; (try rfl)) hH ?_
      try simp only [Act.put,aT,aZ,aS]
      refine tk 23 rfl (by kernel_rfl) (fun _ _ _ h => h) rfl (fun w9 hS9 => by obtain ⟨k0,k1,k2,k3,k4,k5,k6,k7,k8⟩ := hS9.2.cells; go_simp; (try rfl)) hH ?_
      try simp only [Act.put,aT,aZ,aS]
      refine tk 24 rfl (by kernel_rfl) (fun _ _ _ h => h) rfl (fun w9 hS9 => by obtain ⟨k0,k1,k2,k3,k4,k5,k6,k7,k8⟩ := hS9.2.cells; go_simp; (try rfl)) hH ?_
      try simp only [Act.put,aT,aZ,aS]
      have hHe := hH.1
      refine wR (rs := [25]) (by kernel_rfl) (by simp) (aR rfl (fun K hK => ?_) aN)
      rw [if_pos (by rfl)]
      go_simp
      go_at_call 114
      (with_reducible refine (R7 _ hHe).mono ?_)
      rintro e wz ⟨rfl,xz⟩
      refine hK.out _ _ (hH.ext xz) (fun hH => ?_)
      clear hK K
      try simp only [aT,aZ,aS]
      clear hHe
      refine tk 26 rfl (by kernel_rfl) (fun _ _ _ h => h) rfl (fun w9 hS9 => by obtain ⟨k0,k1,k2,k3,k4,k5,k6,k7,k8⟩ := hS9.2.cells; go_simp; (try rfl)) hH ?_
      try simp only [Act.put,aT,aZ,aS]
      refine tk 27 rfl (by kernel_rfl) (fun _ _ _ h => h) rfl (fun w9 hS9 => by obtain ⟨k0,k1,k2,k3,k4,k5,k6,k7,k8⟩ := hS9.2.cells; go_simp; (try rfl)) hH ?_
      try simp only [Act.put,aT,aZ,aS]
      refine wpAnyH_done (by kernel_rfl) ?_ _
      have xf := hH.1
      go_wp2_with fail
      go_ret
      exact ⟨by first | rfl | simp,xf⟩
end Go.Proofs.YtjjnmefihdjglaaGreat
