import Derived.Test.YtjjnmefihdjglaaGreatKD
import Derived.Test.YtjjnmefihdjglaaGreatKE
set_option maxRecDepth 100000
set_option maxHeartbeats 64000000
set_option linter.all false
namespace Go.Proofs.YtjjnmefihdjglaaGreat
open Go.RowKit
theorem rValue_any (s : ByteArray) (w : World) (hs : s.size ≤ 9223372036854775807) :
  Calls Tryz.prog 67 #[.string s] w fun e w' => e = .returned (.bool (valueB s)) ∧ Ext w w' := by
 have B := fun w => rBad_any s w hs
 obtain ⟨b,hb⟩ : ∃ b,badL (bs s) = b := ⟨_,rfl⟩
 rw [hb] at B
 by_cases h60 : s.size ≤ 60
 ·have HV : Hid (valueB s = decide (b < 0)) := Lib.hid (by unfold valueB; rw [decide_eq_true h60,Bool.true_and,hb])
  clear hb
  go_enter Tryz.func67,Tryz.ntmps67
  go_wp2_with fail
  (with_reducible refine (B _).mono ?_)
  rintro e w1 ⟨rfl,x1⟩
  go_wp2_with fail
  go_ret
  exact ⟨retB HV.out.symm,x1⟩
 ·have HV : Hid (valueB s = false) := Lib.hid (by unfold valueB; rw [decide_eq_false h60,Bool.false_and])
  clear hb
  go_enter Tryz.func67,Tryz.ntmps67
  go_wp2_with fail
  go_ret
  exact ⟨retB HV.out.symm,Ext.refl _⟩
theorem rName_any (s : ByteArray) (w : World) (hs : s.size ≤ 9223372036854775807) :
  Calls Tryz.prog 65 #[.string s] w fun e w' => e = .returned (.bool (nameB s)) ∧ Ext w w' := by
 have B := fun w => rBad_any s w hs
 obtain ⟨b,hb⟩ : ∃ b,badL (bs s) = b := ⟨_,rfl⟩
 rw [hb] at B
 obtain ⟨R,hR⟩ : ∃ R,nameB s = R := ⟨_,rfl⟩
 rw [hR]
 unfold nameB at hR
 rw [hb] at hR
 clear hb
 replace hR := Lib.hid hR
 go_enter Tryz.func65,Tryz.ntmps65
 go_wp2_with fail
 go_loopw [3] (fun i wr => ∃ k : Nat,i = .int .i64 k ∧ k ≤ s.size ∧ Hid (plainL ((bs s).drop k) = plainL (bs s)) ∧ wr = w) (fun i _ => s.size - (intOf i).toNat)
 case atStart => exact ⟨0,rfl,Nat.zero_le _,Lib.hid rfl,rfl⟩
 case round =>
  obtain ⟨k,rfl,hk,hz,rfl⟩ := hrel
  by_cases hlt : k < s.size
  ·have hd := hz.out
   rw [drop_bs s k hlt] at hd
   rw [plainL_cons] at hd
   clear hz
   by_cases h1 : 32 ≤ s[k].toNat
   ·rw [decide_eq_true h1,Bool.true_and] at hd
    by_cases h2 : s[k].toNat = 127
    ·rw [decide_eq_false (by omega),Bool.false_and] at hd
     have e2 : ((s[k].toNat : Int) == 127) = true := by rw [h2]; rfl
     have HV : Hid (R = false) := Lib.hid (by rw [← hR.out,← hd,Bool.false_and])
     clear hR hd h2
     go_wp2_with fail
     go_ret
     exact ⟨retB HV.out.symm,Ext.refl _⟩
    ·rw [decide_eq_true h2,Bool.true_and] at hd
     have e2 : ((s[k].toNat : Int) == 127) = false := by simp; omega
     replace hd := Lib.hid hd
     clear h2
     go_wp2_with fail
     go_roundw
     case rel => exact ⟨k + 1,rfl,hlt,hd,by first | trivial | rfl⟩
     case measure => simp only [intOf]; omega
   ·rw [decide_eq_false h1,Bool.false_and] at hd
    have HV : Hid (R = false) := Lib.hid (by rw [← hR.out,← hd,Bool.false_and])
    clear hR hd
    have h3 : (s[k].toNat : Int) < 32 := by omega
    go_wp2_with fail
    go_ret
    exact ⟨retB HV.out.symm,Ext.refl _⟩
  ·have hd := hz.out
   rw [drop_bs_nil s k (by omega)] at hd
   have hr := hR.out
   rw [← hd] at hr
   rw [show plainL [] = true from rfl,Bool.true_and] at hr
   clear hR hd hz
   have hk2 : s.size ≤ k := by omega
   by_cases h0 : 0 < s.size
   ·rw [decide_eq_true h0,Bool.true_and] at hr
    have e0 : s.toList.isEmpty = false := by rw [isEmpty_of,decide_eq_false (by omega)]
    by_cases h60 : s.size ≤ 60
    ·rw [decide_eq_true h60,Bool.true_and] at hr
     replace hr := Lib.hid hr
     clear hk hlt
     go_wp2_with fail
     (with_reducible refine (B _).mono ?_)
     rintro e w1 ⟨rfl,x1⟩
     go_wp2_with fail
     go_ret
     exact ⟨retB hr.out,x1⟩
    ·rw [decide_eq_false h60,Bool.false_and] at hr
     replace hr := Lib.hid hr
     clear hk hlt
     go_wp2_with fail
     go_ret
     exact ⟨retB hr.out,Ext.refl _⟩
   ·rw [decide_eq_false h0,Bool.false_and] at hr
    have e0 : s.toList.isEmpty = true := by rw [isEmpty_of,decide_eq_true (by omega)]
    replace hr := Lib.hid hr
    have h9 : (s.size : Int) < 1 := by omega
    clear hk hlt h0
    go_wp2_with fail
    go_ret
    exact ⟨retB hr.out,Ext.refl _⟩
theorem rGet_any (a : Option Addr) (c : Nat) (l : List (ByteArray × ByteArray)) (nm : ByteArray) (w : World) (hl : (l.length : Int) ≤ 9223372036854775807) (hA : LabA a l w) :
  Calls Tryz.prog 101 #[.slice a l.length c,.string nm] w fun e w' => e = .returned (.tuple #[.string (getL nm l).1,.bool (getL nm l).2]) ∧ Ext w w' := by
 obtain ⟨R,hR⟩ : ∃ R,getL nm l = R := ⟨_,rfl⟩
 rw [hR]
 replace hR := Lib.hid hR
 go_enter Tryz.func101,Tryz.ntmps101
 go_wp2_with fail
 go_loopw [6] (fun i wr => ∃ k : Nat,i = .int .i64 k ∧ k ≤ l.length ∧ Hid (getL nm (l.drop k) = R) ∧ Ext w wr) (fun i _ => l.length - (intOf i).toNat)
 case atStart => exact ⟨0,rfl,Nat.zero_le _,Lib.hid hR.out,Ext.refl _⟩
 case round =>
  obtain ⟨k,rfl,hk,hg,xr⟩ := hrel
  by_cases hlt : k < l.length
  ·have hd := hg.out
   rw [List.drop_eq_getElem_cons hlt] at hd
   obtain ⟨b,o,rfl,hb,hL⟩ := hA (by omega)
   obtain ⟨q0,q1⟩ := hL k hlt
   have r0 := (xr.cell (p := ⟨b,o + k * 2,none⟩) hb).trans q0
   have r1 := (xr.cell (p := ⟨b,o + k * 2 + 1,none⟩) hb).trans q1
   obtain ⟨n,v,hx⟩ : ∃ n v,l[k] = (n,v) := ⟨_,_,rfl⟩
   rw [hx] at hd r0 r1
   dsimp only at r0 r1
   unfold getL at hd
   dsimp only at hd
   have se := same_is n nm
   clear q0 q1 hg hR
   by_cases h0 : cmpS n nm = 0
   ·rw [decide_eq_true h0] at se
    rw [if_pos h0] at hd
    have e1 : Hid (v = R.1 ∧ true = R.2) := Lib.hid (by rw [← hd]; exact ⟨rfl,rfl⟩)
    clear hd h0
    go_wp2_with fail
    go_ret2
    exact ⟨ret2 (congrArg Value.string e1.out.1) (congrArg Value.bool e1.out.2),xr⟩
   ·rw [decide_eq_false h0] at se
    rw [if_neg h0] at hd
    replace hd := Lib.hid hd
    clear h0
    go_wp2_with fail
    go_roundw
    case rel => exact ⟨k + 1,rfl,hlt,hd,xr⟩
    case measure => simp only [intOf]; omega
  ·have hd := hg.out
   rw [show l.drop k = [] from List.drop_eq_nil_of_le (by omega)] at hd
   have e1 : Hid ((⟨#[]⟩ : ByteArray) = R.1 ∧ false = R.2) := Lib.hid (by rw [← hd]; exact ⟨rfl,rfl⟩)
   have hk3 : l.length ≤ k := by omega
   clear hk hd hg hR hA
   go_wp2_with fail
   go_ret2
   exact ⟨ret2 (congrArg Value.string e1.out.1) (congrArg Value.bool e1.out.2),xr⟩
theorem rRoles_any (F : Nat) (k : Int) (w : World) (hF : F = 124) :
  Calls Tryz.prog F #[.int .i64 k] w fun e w' => (∃ v,e = .returned v ∧ IntsV v (rolesOf k) w') ∧ Ext w w' := by
 subst hF
 have mk : ∀ (l : List Int) (o : Obj),o = .cells (l.map fun x => Value.int .i64 x).toArray 3 → ∀ n c,n = l.length → c = l.length → (∃ v,Ending.returned (.slice (some ⟨w.heap.size,0,none⟩) n c) = .returned v ∧ IntsV v l (w.alloc o)) ∧ Ext w (w.alloc o) := by
  rintro l o rfl n c rfl rfl
  exact ⟨⟨_,rfl,.inr ⟨w.heap.size,rfl,by rw [heap_size_alloc]; omega,IntsAt.mk l (heap_last _ _)⟩⟩,(Ext.refl _).alloc _⟩
 unfold rolesOf
 by_cases h0 : k = 0
 ·subst h0
  rw [if_pos (by decide)]
  go_enter Tryz.func124,Tryz.ntmps124
  go_wp2_with fail
  go_ret
  exact mk [0] _ rfl _ _ rfl rfl
 ·by_cases h1 : k = 1
  ·subst h1
   rw [if_pos (by decide)]
   go_enter Tryz.func124,Tryz.ntmps124
   go_wp2_with fail
   go_ret
   exact mk [0] _ rfl _ _ rfl rfl
  ·by_cases h2 : k = 2
   ·subst h2
    rw [if_pos (by decide)]
    go_enter Tryz.func124,Tryz.ntmps124
    go_wp2_with fail
    go_ret
    exact mk [0] _ rfl _ _ rfl rfl
   ·rw [if_neg (by omega)]
    by_cases h3 : k = 3
    ·subst h3
     rw [if_pos rfl]
     go_enter Tryz.func124,Tryz.ntmps124
     go_wp2_with fail
     go_ret
     exact mk [1,3,4] _ rfl _ _ rfl rfl
    ·rw [if_neg h3]
     by_cases h4 : k = 4
     ·subst h4
      rw [if_pos rfl]
      go_enter Tryz.func124,Tryz.ntmps124
      go_wp2_with fail
      go_ret
      exact mk [2,3,4] _ rfl _ _ rfl rfl
     ·rw [if_neg h4]
      go_enter Tryz.func124,Tryz.ntmps124
      go_wp2_with fail
      go_ret
      exact ⟨⟨_,rfl,.inl ⟨rfl,rfl⟩⟩,Ext.refl _⟩
theorem rHasRole_any (k r : Int) (w : World) :
  Calls Tryz.prog 98 #[.int .i64 k,.int .i64 r] w fun e w' => e = .returned (.bool (decide (r ∈ rolesOf k))) ∧ Ext w w' := by
 have C := fun w => rRoles_any _ k w rfl
 have hL : (rolesOf k).length ≤ 3 := by unfold rolesOf; (repeat' split) <;> decide
 obtain ⟨R,hR⟩ : ∃ R,decide (r ∈ rolesOf k) = R := ⟨_,rfl⟩
 rw [hR]
 generalize rolesOf k = l at *
 go_enter Tryz.func98,Tryz.ntmps98
 go_wp2_with fail
 (with_reducible refine (C _).mono ?_)
 rintro e W ⟨⟨v,rfl,hv⟩,hx⟩
 clear C
 rcases hv with ⟨rfl,rfl⟩ | ⟨b,rfl,hb,hc⟩
 ·have HV : Hid (R = false) := Lib.hid (by rw [← hR]; simp)
  clear hR
  go_wp2_with fail
  refine wp_loop_rounds 1 ?_
  rw [rounds_succ]
  go_wp2_with fail
  go_ret
  exact ⟨retB HV.out.symm,hx⟩
 ·go_wp2_with fail
  go_loopw [6] (fun i wr => ∃ j : Nat,i = .int .i64 j ∧ j ≤ l.length ∧ Hid (decide (r ∈ l.drop j) = R) ∧ wr = W) (fun i _ => l.length - (intOf i).toNat)
  case atStart => exact ⟨0,rfl,Nat.zero_le _,Lib.hid hR,rfl⟩
  case round =>
   obtain ⟨j,rfl,hk,hz,rfl⟩ := hrel
   by_cases hlt : j < l.length
   ·have g := hc j hlt
    have hd := hz.out
    rw [List.drop_eq_getElem_cons hlt] at hd
    rw [Nat.zero_add] at g
    generalize l[j] = y at *
    clear hz hR hc
    by_cases h0 : y = r
    ·subst h0
     have HV : Hid (R = true) := Lib.hid (by rw [← hd]; simp)
     clear hd
     go_wp2_with fail
     go_ret
     exact ⟨retB HV.out.symm,hx⟩
    ·have HV : Hid (decide (r ∈ l.drop (j + 1)) = R) := Lib.hid (by rw [← hd]; simp [Ne.symm h0])
     clear hd
     go_wp2_with fail
     go_roundw
     case rel => exact ⟨j + 1,rfl,hlt,HV,by first | trivial | rfl⟩
     case measure => simp only [intOf]; omega
   ·have hd := hz.out
    rw [List.drop_eq_nil_of_le (by omega)] at hd
    have hk2 : l.length ≤ j := by omega
    have HV : Hid (R = false) := Lib.hid (by rw [← hd]; simp)
    clear hz hR hk hd hc
    go_wp2_with fail
    go_ret
    exact ⟨retB HV.out.symm,hx⟩
theorem rIsTime_any (T : Int) (w : World) :
  Calls Tryz.prog 100 #[.int .i64 T] w fun e w' => e = .returned (.bool (decide (-1125899906842624 ≤ T) && decide (T ≤ 1125899906842624))) ∧ Ext w w' := by
 obtain ⟨R,hR⟩ : ∃ R,(decide (-1125899906842624 ≤ T) && decide (T ≤ 1125899906842624)) = R := ⟨_,rfl⟩
 rw [hR]
 by_cases h1 : -1125899906842624 ≤ T
 ·have n1 : binOp .geq 2 (.int .i64 T) (.int .i64 (-1125899906842624)) = pure (.bool true) := by
   simp only [go_sem]; rw [show decide (T ≥ -1125899906842624) = true from decide_eq_true h1]
  by_cases h2 : T ≤ 1125899906842624
  ·have n2 : binOp .leq 2 (.int .i64 T) (.int .i64 1125899906842624) = pure (.bool true) := by
    simp only [go_sem]; rw [show decide (T ≤ 1125899906842624) = true from decide_eq_true h2]
   have HV : Hid (R = true) := Lib.hid (by rw [← hR]; simp [h1,h2])
   clear hR h1 h2
   go_enter Tryz.func100,Tryz.ntmps100
   go_wp2_with fail
   go_ret
   exact ⟨retB HV.out.symm,Ext.refl _⟩
  ·have n2 : binOp .leq 2 (.int .i64 T) (.int .i64 1125899906842624) = pure (.bool false) := by
    simp only [go_sem]; rw [show decide (T ≤ 1125899906842624) = false from decide_eq_false h2]
   have HV : Hid (R = false) := Lib.hid (by rw [← hR]; simp [h2])
   clear hR h1 h2
   go_enter Tryz.func100,Tryz.ntmps100
   go_wp2_with fail
   go_ret
   exact ⟨retB HV.out.symm,Ext.refl _⟩
 ·have n1 : binOp .geq 2 (.int .i64 T) (.int .i64 (-1125899906842624)) = pure (.bool false) := by
   simp only [go_sem]; rw [show decide (T ≥ -1125899906842624) = false from decide_eq_false h1]
  have HV : Hid (R = false) := Lib.hid (by rw [← hR]; simp [h1])
  clear hR h1
  go_enter Tryz.func100,Tryz.ntmps100
  go_wp2_with fail
  go_ret
  exact ⟨retB HV.out.symm,Ext.refl _⟩
theorem rLabels_any (a : Option Addr) (c : Nat) (l : List (ByteArray × ByteArray)) (w : World) (hl : (l.length : Int) ≤ 9223372036854775807) (hA : LabA a l w) (hz : ∀ x ∈ l,x.1.size ≤ 9223372036854775807 ∧ x.2.size ≤ 9223372036854775807) :
  Calls Tryz.prog 99 #[.slice a l.length c] w fun e w' => e = .returned (.bool (goodLs l)) ∧ Ext w w' := by
 obtain ⟨R,hR⟩ : ∃ R,goodLs l = R := ⟨_,rfl⟩
 rw [hR]
 unfold goodLs at hR
 by_cases h8 : l.length ≤ 8
 ·rw [decide_eq_true h8,Bool.and_true] at hR
  replace hR := Lib.hid hR
  go_enter Tryz.func99,Tryz.ntmps99
  go_wp2_with fail
  go_loopw [3] (fun i wr => ∃ k : Nat,i = .int .i64 k ∧ k ≤ l.length ∧ Hid (goodGo ((l.take k).getLast?.map (·.1)) (l.drop k) = R) ∧ Ext w wr) (fun i _ => l.length - (intOf i).toNat)
  case atStart => exact ⟨0,rfl,Nat.zero_le _,hR,Ext.refl _⟩
  case round =>
   obtain ⟨k,rfl,hk,hg,xr⟩ := hrel
   clear hR
   by_cases hlt : k < l.length
   ·have hd := hg.out
    rw [List.drop_eq_getElem_cons hlt] at hd
    obtain ⟨b,o,rfl,hb,hL⟩ := hA (by omega)
    obtain ⟨q0,q1⟩ := hL k hlt
    obtain ⟨z1,z2⟩ := hz l[k] (List.getElem_mem hlt)
    have htl := take_last l k hlt
    obtain ⟨n,v,hx⟩ : ∃ n v,l[k] = (n,v) := ⟨_,_,rfl⟩
    rw [hx] at hd q0 q1 z1 z2 htl
    dsimp only at q0 q1 z1 z2 htl
    have N := fun w => rName_any n w z1
    have V := fun w => rValue_any v w z2
    have e2 : (k : Int) < (l.length : Int) := by omega
    clear hg hz
    by_cases hn : nameB n = true
    ·rw [hn] at N
     by_cases hv : valueB v = true
     ·rw [hv] at V
      cases k with
      | zero =>
        rw [Nat.zero_mul,Nat.add_zero] at q0 q1
        have hd2 : goodGo (some n) (l.drop 1) = R := by
         rw [← hd]
         show _ = goodGo none ((n,v) :: l.drop 1)
         unfold goodGo
         rw [hn,hv,Bool.true_and,Bool.true_and]
         cases l.drop 1 <;> rfl
        replace hd2 := Lib.hid hd2
        clear hd hn hv
        go_wp2_with fail
        refine wp_region_held_drew (S := Ext w) (by kernel_rfl) (xr.drew) (fun hH => ?_)
        refine tk 0 rfl (by kernel_rfl) (fun _ _ _ h => h) rfl (fun w9 hS9 => by have k0 := (Ext.cell hS9 (p := ⟨b,o,none⟩) hb).trans q0; have k1 := (Ext.cell hS9 (p := ⟨b,o + 1,none⟩) hb).trans q1; go_simp; (try rfl)) hH ?_
        try simp only [Act.put,aT,aZ,aS]
        refine tk 1 rfl (by kernel_rfl) (fun _ _ _ h => h) rfl (fun w9 hS9 => by have k0 := (Ext.cell hS9 (p := ⟨b,o,none⟩) hb).trans q0; have k1 := (Ext.cell hS9 (p := ⟨b,o + 1,none⟩) hb).trans q1; go_simp; (try rfl)) hH ?_
        try simp only [Act.put,aT,aZ,aS]
        refine tk 2 rfl (by kernel_rfl) (fun _ _ _ h => h) rfl (fun w9 hS9 => by have k0 := (Ext.cell hS9 (p := ⟨b,o,none⟩) hb).trans q0; have k1 := (Ext.cell hS9 (p := ⟨b,o + 1,none⟩) hb).trans q1; go_simp; (try rfl)) hH ?_
        try simp only [Act.put,aT,aZ,aS]
        refine tk 3 rfl (by kernel_rfl) (fun _ _ _ h => h) rfl (fun w9 hS9 => by have k0 := (Ext.cell hS9 (p := ⟨b,o,none⟩) hb).trans q0; have k1 := (Ext.cell hS9 (p := ⟨b,o + 1,none⟩) hb).trans q1; go_simp; (try rfl)) hH ?_
        try simp only [Act.put,aT,aZ,aS]
        refine tk 4 rfl (by kernel_rfl) (fun _ _ _ h => h) rfl (fun w9 hS9 => by have k0 := (Ext.cell hS9 (p := ⟨b,o,none⟩) hb).trans q0; have k1 := (Ext.cell hS9 (p := ⟨b,o + 1,none⟩) hb).trans q1; go_simp; (try rfl)) hH ?_
        try simp only [Act.put,aT,aZ,aS]
        refine wR (rs := [5]) (by kernel_rfl) (by simp) (aR rfl (fun K hK => ?_) aN)
        rw [if_pos (by rfl)]
        go_simp
        go_at_call 65
        (with_reducible refine (N _).mono ?_)
        rintro e wz ⟨rfl,xz⟩
        refine hK.out _ _ (Ext.trans hH xz) (fun hH => ?_)
        clear hK K
        try simp only [aT,aZ,aS]
        refine tk 6 rfl (by kernel_rfl) (fun _ _ _ h => h) rfl (fun w9 hS9 => by have k0 := (Ext.cell hS9 (p := ⟨b,o,none⟩) hb).trans q0; have k1 := (Ext.cell hS9 (p := ⟨b,o + 1,none⟩) hb).trans q1; go_simp; (try rfl)) hH ?_
        try simp only [Act.put,aT,aZ,aS]
        refine tk 7 rfl (by kernel_rfl) (fun _ _ _ h => h) rfl (fun w9 hS9 => by have k0 := (Ext.cell hS9 (p := ⟨b,o,none⟩) hb).trans q0; have k1 := (Ext.cell hS9 (p := ⟨b,o + 1,none⟩) hb).trans q1; go_simp; (try rfl)) hH ?_
        try simp only [Act.put,aT,aZ,aS]
        refine tk 8 rfl (by kernel_rfl) (fun _ _ _ h => h) rfl (fun w9 hS9 => by have k0 := (Ext.cell hS9 (p := ⟨b,o,none⟩) hb).trans q0; have k1 := (Ext.cell hS9 (p := ⟨b,o + 1,none⟩) hb).trans q1; go_simp; (try rfl)) hH ?_
        try simp only [Act.put,aT,aZ,aS]
        refine tk 9 rfl (by kernel_rfl) (fun _ _ _ h => h) rfl (fun w9 hS9 => by have k0 := (Ext.cell hS9 (p := ⟨b,o,none⟩) hb).trans q0; have k1 := (Ext.cell hS9 (p := ⟨b,o + 1,none⟩) hb).trans q1; go_simp; (try rfl)) hH ?_
        try simp only [Act.put,aT,aZ,aS]
        refine tk 10 rfl (by kernel_rfl) (fun _ _ _ h => h) rfl (fun w9 hS9 => by have k0 := (Ext.cell hS9 (p := ⟨b,o,none⟩) hb).trans q0; have k1 := (Ext.cell hS9 (p := ⟨b,o + 1,none⟩) hb).trans q1; go_simp; (try rfl)) hH ?_
        try simp only [Act.put,aT,aZ,aS]
        refine tk 11 rfl (by kernel_rfl) (fun _ _ _ h => h) rfl (fun w9 hS9 => by have k0 := (Ext.cell hS9 (p := ⟨b,o,none⟩) hb).trans q0; have k1 := (Ext.cell hS9 (p := ⟨b,o + 1,none⟩) hb).trans q1; go_simp; (try rfl)) hH ?_
        try simp only [Act.put,aT,aZ,aS]
        refine tk 12 rfl (by kernel_rfl) (fun _ _ _ h => h) rfl (fun w9 hS9 => by have k0 := (Ext.cell hS9 (p := ⟨b,o,none⟩) hb).trans q0; have k1 := (Ext.cell hS9 (p := ⟨b,o + 1,none⟩) hb).trans q1; go_simp; (try rfl)) hH ?_
        try simp only [Act.put,aT,aZ,aS]
        refine wR (rs := [13]) (by kernel_rfl) (by simp) (aR rfl (fun K hK => ?_) aN)
        rw [if_pos (by rfl)]
        go_simp
        go_at_call 67
        (with_reducible refine (V _).mono ?_)
        rintro e wz ⟨rfl,xz⟩
        refine hK.out _ _ (Ext.trans hH xz) (fun hH => ?_)
        clear hK K
        try simp only [aT,aZ,aS]
        refine tk 14 rfl (by kernel_rfl) (fun _ _ _ h => h) rfl (fun w9 hS9 => by have k0 := (Ext.cell hS9 (p := ⟨b,o,none⟩) hb).trans q0; have k1 := (Ext.cell hS9 (p := ⟨b,o + 1,none⟩) hb).trans q1; go_simp; (try rfl)) hH ?_
        try simp only [Act.put,aT,aZ,aS]
        refine tk 15 rfl (by kernel_rfl) (fun _ _ _ h => h) rfl (fun w9 hS9 => by have k0 := (Ext.cell hS9 (p := ⟨b,o,none⟩) hb).trans q0; have k1 := (Ext.cell hS9 (p := ⟨b,o + 1,none⟩) hb).trans q1; go_simp; (try rfl)) hH ?_
        try simp only [Act.put,aT,aZ,aS]
        refine tk 16 rfl (by kernel_rfl) (fun _ _ _ h => h) rfl (fun w9 hS9 => by have k0 := (Ext.cell hS9 (p := ⟨b,o,none⟩) hb).trans q0; have k1 := (Ext.cell hS9 (p := ⟨b,o + 1,none⟩) hb).trans q1; go_simp; (try rfl)) hH ?_
        try simp only [Act.put,aT,aZ,aS]
        refine tk 17 rfl (by kernel_rfl) (fun _ _ _ h => h) rfl (fun w9 hS9 => by have k0 := (Ext.cell hS9 (p := ⟨b,o,none⟩) hb).trans q0; have k1 := (Ext.cell hS9 (p := ⟨b,o + 1,none⟩) hb).trans q1; go_simp; (try rfl)) hH ?_
        try simp only [Act.put,aT,aZ,aS]
        refine tk 18 rfl (by kernel_rfl) (fun _ _ _ h => h) rfl (fun w9 hS9 => by have k0 := (Ext.cell hS9 (p := ⟨b,o,none⟩) hb).trans q0; have k1 := (Ext.cell hS9 (p := ⟨b,o + 1,none⟩) hb).trans q1; go_simp; (try rfl)) hH ?_
        try simp only [Act.put,aT,aZ,aS]
        refine tk 19 rfl (by kernel_rfl) (fun _ _ _ h => h) rfl (fun w9 hS9 => by have k0 := (Ext.cell hS9 (p := ⟨b,o,none⟩) hb).trans q0; have k1 := (Ext.cell hS9 (p := ⟨b,o + 1,none⟩) hb).trans q1; go_simp; (try rfl)) hH ?_
        try simp only [Act.put,aT,aZ,aS]
        refine tk0 20 rfl (by kernel_rfl) (fun _ _ _ h => h) rfl hH ?_
        try simp only [Act.put,aT,aZ,aS]
        refine tk0 21 rfl (by kernel_rfl) (fun _ _ _ h => h) rfl hH ?_
        try simp only [Act.put,aT,aZ,aS]
        refine tk0 22 rfl (by kernel_rfl) (fun _ _ _ h => h) rfl hH ?_
        try simp only [Act.put,aT,aZ,aS]
        refine tk0 23 rfl (by kernel_rfl) (fun _ _ _ h => h) rfl hH ?_
        try simp only [Act.put,aT,aZ,aS]
        refine tk0 24 rfl (by kernel_rfl) (fun _ _ _ h => h) rfl hH ?_
        try simp only [Act.put,aT,aZ,aS]
        refine tk0 25 rfl (by kernel_rfl) (fun _ _ _ h => h) rfl hH ?_
        try simp only [Act.put,aT,aZ,aS]
        refine tk0 26 rfl (by kernel_rfl) (fun _ _ _ h => h) rfl hH ?_
        try simp only [Act.put,aT,aZ,aS]
        refine tk0 27 rfl (by kernel_rfl) (fun _ _ _ h => h) rfl hH ?_
        try simp only [Act.put,aT,aZ,aS]
        refine tk0 28 rfl (by kernel_rfl) (fun _ _ _ h => h) rfl hH ?_
        try simp only [Act.put,aT,aZ,aS]
        refine tk0 29 rfl (by kernel_rfl) (fun _ _ _ h => h) rfl hH ?_
        try simp only [Act.put,aT,aZ,aS]
        refine tk0 30 rfl (by kernel_rfl) (fun _ _ _ h => h) rfl hH ?_
        try simp only [Act.put,aT,aZ,aS]
        refine tk0 31 rfl (by kernel_rfl) (fun _ _ _ h => h) rfl hH ?_
        try simp only [Act.put,aT,aZ,aS]
        refine tk 32 rfl (by kernel_rfl) (fun _ _ _ h => h) rfl (fun w9 hS9 => by have k0 := (Ext.cell hS9 (p := ⟨b,o,none⟩) hb).trans q0; have k1 := (Ext.cell hS9 (p := ⟨b,o + 1,none⟩) hb).trans q1; go_simp; (try rfl)) hH ?_
        try simp only [Act.put,aT,aZ,aS]
        refine tk 33 rfl (by kernel_rfl) (fun _ _ _ h => h) rfl (fun w9 hS9 => by have k0 := (Ext.cell hS9 (p := ⟨b,o,none⟩) hb).trans q0; have k1 := (Ext.cell hS9 (p := ⟨b,o + 1,none⟩) hb).trans q1; go_simp; (try rfl)) hH ?_
        try simp only [Act.put,aT,aZ,aS]
        refine wpAnyH_done (by kernel_rfl) ?_ _
        go_wp2_with fail
        go_roundw
        case rel => exact ⟨1,rfl,hlt,Lib.hid (by rw [htl]; exact hd2.out),hH⟩
        case measure => simp only [intOf]; omega
      | succ k =>
        have hp := take_last l k (by omega)
        have hp0 := (hL k (by omega)).1
        obtain ⟨p,hpe⟩ : ∃ p,(l[k]'(by omega)).1 = p := ⟨_,rfl⟩
        rw [hpe] at hp hp0
        rw [hp] at hd
        have e1 : IntKind.i64.wrap (k : Int) = (k : Int) := IntWalk.i64_in _ (by omega)
        have e3 : (k : Int) < (l.length : Int) := by omega
        have e4 : (0 : Int) ≤ (k : Int) + 1 := by omega
        have hd1 : (!(geS p n) && goodGo (some n) (l.drop (k + 1 + 1))) = R := by
         rw [← hd]
         show _ = (nameB n && (valueB v && (!(geS p n) && goodGo (some n) (l.drop (k + 1 + 1)))))
         rw [hn,hv,Bool.true_and,Bool.true_and]
        clear hd hn hv
        by_cases hge : geS p n = true
        ·rw [hge] at hd1
         have nl : Op.bytesLess p.toList n.toList = false := by
          rw [less_is,decide_eq_false]
          unfold geS at hge
          simp only [decide_eq_true_eq] at hge
          omega
         have HV : Hid (R = false) := Lib.hid (by rw [← hd1]; rfl)
         clear hd1 hge
         go_wp2_with fail
         refine wp_region_held_drew (S := Ext w) (by kernel_rfl) (xr.drew) (fun hH => ?_)
         refine tk 0 rfl (by kernel_rfl) (fun _ _ _ h => h) rfl (fun w9 hS9 => by have k0 := (Ext.cell hS9 (p := ⟨b,o + (k + 1) * 2,none⟩) hb).trans q0; have k1 := (Ext.cell hS9 (p := ⟨b,o + (k + 1) * 2 + 1,none⟩) hb).trans q1; have k2 := (Ext.cell hS9 (p := ⟨b,o + k * 2,none⟩) hb).trans hp0; go_simp; (try rfl)) hH ?_
         try simp only [Act.put,aT,aZ,aS]
         refine tk 1 rfl (by kernel_rfl) (fun _ _ _ h => h) rfl (fun w9 hS9 => by have k0 := (Ext.cell hS9 (p := ⟨b,o + (k + 1) * 2,none⟩) hb).trans q0; have k1 := (Ext.cell hS9 (p := ⟨b,o + (k + 1) * 2 + 1,none⟩) hb).trans q1; have k2 := (Ext.cell hS9 (p := ⟨b,o + k * 2,none⟩) hb).trans hp0; go_simp; (try rfl)) hH ?_
         try simp only [Act.put,aT,aZ,aS]
         refine tk 2 rfl (by kernel_rfl) (fun _ _ _ h => h) rfl (fun w9 hS9 => by have k0 := (Ext.cell hS9 (p := ⟨b,o + (k + 1) * 2,none⟩) hb).trans q0; have k1 := (Ext.cell hS9 (p := ⟨b,o + (k + 1) * 2 + 1,none⟩) hb).trans q1; have k2 := (Ext.cell hS9 (p := ⟨b,o + k * 2,none⟩) hb).trans hp0; go_simp; (try rfl)) hH ?_
         try simp only [Act.put,aT,aZ,aS]
         refine tk 3 rfl (by kernel_rfl) (fun _ _ _ h => h) rfl (fun w9 hS9 => by have k0 := (Ext.cell hS9 (p := ⟨b,o + (k + 1) * 2,none⟩) hb).trans q0; have k1 := (Ext.cell hS9 (p := ⟨b,o + (k + 1) * 2 + 1,none⟩) hb).trans q1; have k2 := (Ext.cell hS9 (p := ⟨b,o + k * 2,none⟩) hb).trans hp0; go_simp; (try rfl)) hH ?_
         try simp only [Act.put,aT,aZ,aS]
         refine tk 4 rfl (by kernel_rfl) (fun _ _ _ h => h) rfl (fun w9 hS9 => by have k0 := (Ext.cell hS9 (p := ⟨b,o + (k + 1) * 2,none⟩) hb).trans q0; have k1 := (Ext.cell hS9 (p := ⟨b,o + (k + 1) * 2 + 1,none⟩) hb).trans q1; have k2 := (Ext.cell hS9 (p := ⟨b,o + k * 2,none⟩) hb).trans hp0; go_simp; (try rfl)) hH ?_
         try simp only [Act.put,aT,aZ,aS]
         refine wR (rs := [5]) (by kernel_rfl) (by simp) (aR rfl (fun K hK => ?_) aN)
         rw [if_pos (by rfl)]
         go_simp
         go_at_call 65
         (with_reducible refine (N _).mono ?_)
         rintro e wz ⟨rfl,xz⟩
         refine hK.out _ _ (Ext.trans hH xz) (fun hH => ?_)
         clear hK K
         try simp only [aT,aZ,aS]
         refine tk 6 rfl (by kernel_rfl) (fun _ _ _ h => h) rfl (fun w9 hS9 => by have k0 := (Ext.cell hS9 (p := ⟨b,o + (k + 1) * 2,none⟩) hb).trans q0; have k1 := (Ext.cell hS9 (p := ⟨b,o + (k + 1) * 2 + 1,none⟩) hb).trans q1; have k2 := (Ext.cell hS9 (p := ⟨b,o + k * 2,none⟩) hb).trans hp0; go_simp; (try rfl)) hH ?_
         try simp only [Act.put,aT,aZ,aS]
         refine tk 7 rfl (by kernel_rfl) (fun _ _ _ h => h) rfl (fun w9 hS9 => by have k0 := (Ext.cell hS9 (p := ⟨b,o + (k + 1) * 2,none⟩) hb).trans q0; have k1 := (Ext.cell hS9 (p := ⟨b,o + (k + 1) * 2 + 1,none⟩) hb).trans q1; have k2 := (Ext.cell hS9 (p := ⟨b,o + k * 2,none⟩) hb).trans hp0; go_simp; (try rfl)) hH ?_
         try simp only [Act.put,aT,aZ,aS]
         refine tk 8 rfl (by kernel_rfl) (fun _ _ _ h => h) rfl (fun w9 hS9 => by have k0 := (Ext.cell hS9 (p := ⟨b,o + (k + 1) * 2,none⟩) hb).trans q0; have k1 := (Ext.cell hS9 (p := ⟨b,o + (k + 1) * 2 + 1,none⟩) hb).trans q1; have k2 := (Ext.cell hS9 (p := ⟨b,o + k * 2,none⟩) hb).trans hp0; go_simp; (try rfl)) hH ?_
         try simp only [Act.put,aT,aZ,aS]
         refine tk 9 rfl (by kernel_rfl) (fun _ _ _ h => h) rfl (fun w9 hS9 => by have k0 := (Ext.cell hS9 (p := ⟨b,o + (k + 1) * 2,none⟩) hb).trans q0; have k1 := (Ext.cell hS9 (p := ⟨b,o + (k + 1) * 2 + 1,none⟩) hb).trans q1; have k2 := (Ext.cell hS9 (p := ⟨b,o + k * 2,none⟩) hb).trans hp0; go_simp; (try rfl)) hH ?_
         try simp only [Act.put,aT,aZ,aS]
         refine tk 10 rfl (by kernel_rfl) (fun _ _ _ h => h) rfl (fun w9 hS9 => by have k0 := (Ext.cell hS9 (p := ⟨b,o + (k + 1) * 2,none⟩) hb).trans q0; have k1 := (Ext.cell hS9 (p := ⟨b,o + (k + 1) * 2 + 1,none⟩) hb).trans q1; have k2 := (Ext.cell hS9 (p := ⟨b,o + k * 2,none⟩) hb).trans hp0; go_simp; (try rfl)) hH ?_
         try simp only [Act.put,aT,aZ,aS]
         refine tk 11 rfl (by kernel_rfl) (fun _ _ _ h => h) rfl (fun w9 hS9 => by have k0 := (Ext.cell hS9 (p := ⟨b,o + (k + 1) * 2,none⟩) hb).trans q0; have k1 := (Ext.cell hS9 (p := ⟨b,o + (k + 1) * 2 + 1,none⟩) hb).trans q1; have k2 := (Ext.cell hS9 (p := ⟨b,o + k * 2,none⟩) hb).trans hp0; go_simp; (try rfl)) hH ?_
         try simp only [Act.put,aT,aZ,aS]
         refine tk 12 rfl (by kernel_rfl) (fun _ _ _ h => h) rfl (fun w9 hS9 => by have k0 := (Ext.cell hS9 (p := ⟨b,o + (k + 1) * 2,none⟩) hb).trans q0; have k1 := (Ext.cell hS9 (p := ⟨b,o + (k + 1) * 2 + 1,none⟩) hb).trans q1; have k2 := (Ext.cell hS9 (p := ⟨b,o + k * 2,none⟩) hb).trans hp0; go_simp; (try rfl)) hH ?_
         try simp only [Act.put,aT,aZ,aS]
         refine wR (rs := [13]) (by kernel_rfl) (by simp) (aR rfl (fun K hK => ?_) aN)
         rw [if_pos (by rfl)]
         go_simp
         go_at_call 67
         (with_reducible refine (V _).mono ?_)
         rintro e wz ⟨rfl,xz⟩
         refine hK.out _ _ (Ext.trans hH xz) (fun hH => ?_)
         clear hK K
         try simp only [aT,aZ,aS]
         refine tk 14 rfl (by kernel_rfl) (fun _ _ _ h => h) rfl (fun w9 hS9 => by have k0 := (Ext.cell hS9 (p := ⟨b,o + (k + 1) * 2,none⟩) hb).trans q0; have k1 := (Ext.cell hS9 (p := ⟨b,o + (k + 1) * 2 + 1,none⟩) hb).trans q1; have k2 := (Ext.cell hS9 (p := ⟨b,o + k * 2,none⟩) hb).trans hp0; go_simp; (try rfl)) hH ?_
         try simp only [Act.put,aT,aZ,aS]
         refine tk 15 rfl (by kernel_rfl) (fun _ _ _ h => h) rfl (fun w9 hS9 => by have k0 := (Ext.cell hS9 (p := ⟨b,o + (k + 1) * 2,none⟩) hb).trans q0; have k1 := (Ext.cell hS9 (p := ⟨b,o + (k + 1) * 2 + 1,none⟩) hb).trans q1; have k2 := (Ext.cell hS9 (p := ⟨b,o + k * 2,none⟩) hb).trans hp0; go_simp; (try rfl)) hH ?_
         try simp only [Act.put,aT,aZ,aS]
         refine tk 16 rfl (by kernel_rfl) (fun _ _ _ h => h) rfl (fun w9 hS9 => by have k0 := (Ext.cell hS9 (p := ⟨b,o + (k + 1) * 2,none⟩) hb).trans q0; have k1 := (Ext.cell hS9 (p := ⟨b,o + (k + 1) * 2 + 1,none⟩) hb).trans q1; have k2 := (Ext.cell hS9 (p := ⟨b,o + k * 2,none⟩) hb).trans hp0; go_simp; (try rfl)) hH ?_
         try simp only [Act.put,aT,aZ,aS]
         refine tk 17 rfl (by kernel_rfl) (fun _ _ _ h => h) rfl (fun w9 hS9 => by have k0 := (Ext.cell hS9 (p := ⟨b,o + (k + 1) * 2,none⟩) hb).trans q0; have k1 := (Ext.cell hS9 (p := ⟨b,o + (k + 1) * 2 + 1,none⟩) hb).trans q1; have k2 := (Ext.cell hS9 (p := ⟨b,o + k * 2,none⟩) hb).trans hp0; go_simp; (try rfl)) hH ?_
         try simp only [Act.put,aT,aZ,aS]
         refine tk 18 rfl (by kernel_rfl) (fun _ _ _ h => h) rfl (fun w9 hS9 => by have k0 := (Ext.cell hS9 (p := ⟨b,o + (k + 1) * 2,none⟩) hb).trans q0; have k1 := (Ext.cell hS9 (p := ⟨b,o + (k + 1) * 2 + 1,none⟩) hb).trans q1; have k2 := (Ext.cell hS9 (p := ⟨b,o + k * 2,none⟩) hb).trans hp0; go_simp; (try rfl)) hH ?_
         try simp only [Act.put,aT,aZ,aS]
         refine tk 19 rfl (by kernel_rfl) (fun _ _ _ h => h) rfl (fun w9 hS9 => by have k0 := (Ext.cell hS9 (p := ⟨b,o + (k + 1) * 2,none⟩) hb).trans q0; have k1 := (Ext.cell hS9 (p := ⟨b,o + (k + 1) * 2 + 1,none⟩) hb).trans q1; have k2 := (Ext.cell hS9 (p := ⟨b,o + k * 2,none⟩) hb).trans hp0; go_simp; (try rfl)) hH ?_
         try simp only [Act.put,aT,aZ,aS]
         refine tk 20 rfl (by kernel_rfl) (fun _ _ _ h => h) rfl (fun w9 hS9 => by have k0 := (Ext.cell hS9 (p := ⟨b,o + (k + 1) * 2,none⟩) hb).trans q0; have k1 := (Ext.cell hS9 (p := ⟨b,o + (k + 1) * 2 + 1,none⟩) hb).trans q1; have k2 := (Ext.cell hS9 (p := ⟨b,o + k * 2,none⟩) hb).trans hp0; go_simp; (try rfl)) hH ?_
         try simp only [Act.put,aT,aZ,aS]
         refine tk 21 rfl (by kernel_rfl) (fun _ _ _ h => h) rfl (fun w9 hS9 => by have k0 := (Ext.cell hS9 (p := ⟨b,o + (k + 1) * 2,none⟩) hb).trans q0; have k1 := (Ext.cell hS9 (p := ⟨b,o + (k + 1) * 2 + 1,none⟩) hb).trans q1; have k2 := (Ext.cell hS9 (p := ⟨b,o + k * 2,none⟩) hb).trans hp0; go_simp; (try rfl)) hH ?_
         try simp only [Act.put,aT,aZ,aS]
         refine tk 22 rfl (by kernel_rfl) (fun _ _ _ h => h) rfl (fun w9 hS9 => by have k0 := (Ext.cell hS9 (p := ⟨b,o + (k + 1) * 2,none⟩) hb).trans q0; have k1 := (Ext.cell hS9 (p := ⟨b,o + (k + 1) * 2 + 1,none⟩) hb).trans q1; have k2 := (Ext.cell hS9 (p := ⟨b,o + k * 2,none⟩) hb).trans hp0; go_simp; (try rfl)) hH ?_
         try simp only [Act.put,aT,aZ,aS]
         refine tk 23 rfl (by kernel_rfl) (fun _ _ _ h => h) rfl (fun w9 hS9 => by have k0 := (Ext.cell hS9 (p := ⟨b,o + (k + 1) * 2,none⟩) hb).trans q0; have k1 := (Ext.cell hS9 (p := ⟨b,o + (k + 1) * 2 + 1,none⟩) hb).trans q1; have k2 := (Ext.cell hS9 (p := ⟨b,o + k * 2,none⟩) hb).trans hp0; go_simp; (try rfl)) hH ?_
         try simp only [Act.put,aT,aZ,aS]
         refine tk 24 rfl (by kernel_rfl) (fun _ _ _ h => h) rfl (fun w9 hS9 => by have k0 := (Ext.cell hS9 (p := ⟨b,o + (k + 1) * 2,none⟩) hb).trans q0; have k1 := (Ext.cell hS9 (p := ⟨b,o + (k + 1) * 2 + 1,none⟩) hb).trans q1; have k2 := (Ext.cell hS9 (p := ⟨b,o + k * 2,none⟩) hb).trans hp0; go_simp; (try rfl)) hH ?_
         try simp only [Act.put,aT,aZ,aS]
         refine tk 25 rfl (by kernel_rfl) (fun _ _ _ h => h) rfl (fun w9 hS9 => by have k0 := (Ext.cell hS9 (p := ⟨b,o + (k + 1) * 2,none⟩) hb).trans q0; have k1 := (Ext.cell hS9 (p := ⟨b,o + (k + 1) * 2 + 1,none⟩) hb).trans q1; have k2 := (Ext.cell hS9 (p := ⟨b,o + k * 2,none⟩) hb).trans hp0; go_simp; (try rfl)) hH ?_
         try simp only [Act.put,aT,aZ,aS]
         refine tk 26 rfl (by kernel_rfl) (fun _ _ _ h => h) rfl (fun w9 hS9 => by have k0 := (Ext.cell hS9 (p := ⟨b,o + (k + 1) * 2,none⟩) hb).trans q0; have k1 := (Ext.cell hS9 (p := ⟨b,o + (k + 1) * 2 + 1,none⟩) hb).trans q1; have k2 := (Ext.cell hS9 (p := ⟨b,o + k * 2,none⟩) hb).trans hp0; go_simp; (try rfl)) hH ?_
         try simp only [Act.put,aT,aZ,aS]
         refine tk 27 rfl (by kernel_rfl) (fun _ _ _ h => h) rfl (fun w9 hS9 => by have k0 := (Ext.cell hS9 (p := ⟨b,o + (k + 1) * 2,none⟩) hb).trans q0; have k1 := (Ext.cell hS9 (p := ⟨b,o + (k + 1) * 2 + 1,none⟩) hb).trans q1; have k2 := (Ext.cell hS9 (p := ⟨b,o + k * 2,none⟩) hb).trans hp0; go_simp; (try rfl)) hH ?_
         try simp only [Act.put,aT,aZ,aS]
         refine tk 28 rfl (by kernel_rfl) (fun _ _ _ h => h) rfl (fun w9 hS9 => by have k0 := (Ext.cell hS9 (p := ⟨b,o + (k + 1) * 2,none⟩) hb).trans q0; have k1 := (Ext.cell hS9 (p := ⟨b,o + (k + 1) * 2 + 1,none⟩) hb).trans q1; have k2 := (Ext.cell hS9 (p := ⟨b,o + k * 2,none⟩) hb).trans hp0; go_simp; (try rfl)) hH ?_
         try simp only [Act.put,aT,aZ,aS]
         refine tk 29 rfl (by kernel_rfl) (fun _ _ _ h => h) rfl (fun w9 hS9 => by have k0 := (Ext.cell hS9 (p := ⟨b,o + (k + 1) * 2,none⟩) hb).trans q0; have k1 := (Ext.cell hS9 (p := ⟨b,o + (k + 1) * 2 + 1,none⟩) hb).trans q1; have k2 := (Ext.cell hS9 (p := ⟨b,o + k * 2,none⟩) hb).trans hp0; go_simp; (try rfl)) hH ?_
         try simp only [Act.put,aT,aZ,aS]
         refine tk 30 rfl (by kernel_rfl) (fun _ _ _ h => h) rfl (fun w9 hS9 => by have k0 := (Ext.cell hS9 (p := ⟨b,o + (k + 1) * 2,none⟩) hb).trans q0; have k1 := (Ext.cell hS9 (p := ⟨b,o + (k + 1) * 2 + 1,none⟩) hb).trans q1; have k2 := (Ext.cell hS9 (p := ⟨b,o + k * 2,none⟩) hb).trans hp0; go_simp; (try rfl)) hH ?_
         try simp only [Act.put,aT,aZ,aS]
         refine tk 31 rfl (by kernel_rfl) (fun _ _ _ h => h) rfl (fun w9 hS9 => by have k0 := (Ext.cell hS9 (p := ⟨b,o + (k + 1) * 2,none⟩) hb).trans q0; have k1 := (Ext.cell hS9 (p := ⟨b,o + (k + 1) * 2 + 1,none⟩) hb).trans q1; have k2 := (Ext.cell hS9 (p := ⟨b,o + k * 2,none⟩) hb).trans hp0; go_simp; (try rfl)) hH ?_
         try simp only [Act.put,aT,aZ,aS]
         refine tk 32 rfl (by kernel_rfl) (fun _ _ _ h => h) rfl (fun w9 hS9 => by have k0 := (Ext.cell hS9 (p := ⟨b,o + (k + 1) * 2,none⟩) hb).trans q0; have k1 := (Ext.cell hS9 (p := ⟨b,o + (k + 1) * 2 + 1,none⟩) hb).trans q1; have k2 := (Ext.cell hS9 (p := ⟨b,o + k * 2,none⟩) hb).trans hp0; go_simp; (try rfl)) hH ?_
         try simp only [Act.put,aT,aZ,aS]
         refine tk 33 rfl (by kernel_rfl) (fun _ _ _ h => h) rfl (fun w9 hS9 => by have k0 := (Ext.cell hS9 (p := ⟨b,o + (k + 1) * 2,none⟩) hb).trans q0; have k1 := (Ext.cell hS9 (p := ⟨b,o + (k + 1) * 2 + 1,none⟩) hb).trans q1; have k2 := (Ext.cell hS9 (p := ⟨b,o + k * 2,none⟩) hb).trans hp0; go_simp; (try rfl)) hH ?_
         try simp only [Act.put,aT,aZ,aS]
         refine wpAnyH_done (by kernel_rfl) ?_ _
         go_wp2_with fail
         go_ret
         exact ⟨retB HV.out.symm,hH⟩
        ·rw [show geS p n = false from by simpa using hge] at hd1
         have nl : Op.bytesLess p.toList n.toList = true := by
          rw [less_is,decide_eq_true]
          unfold geS at hge
          simp only [decide_eq_true_eq] at hge
          omega
         replace hd1 := Lib.hid hd1
         clear hge
         go_wp2_with fail
         refine wp_region_held_drew (S := Ext w) (by kernel_rfl) (xr.drew) (fun hH => ?_)
         refine tk 0 rfl (by kernel_rfl) (fun _ _ _ h => h) rfl (fun w9 hS9 => by have k0 := (Ext.cell hS9 (p := ⟨b,o + (k + 1) * 2,none⟩) hb).trans q0; have k1 := (Ext.cell hS9 (p := ⟨b,o + (k + 1) * 2 + 1,none⟩) hb).trans q1; have k2 := (Ext.cell hS9 (p := ⟨b,o + k * 2,none⟩) hb).trans hp0; go_simp; (try rfl)) hH ?_
         try simp only [Act.put,aT,aZ,aS]
         refine tk 1 rfl (by kernel_rfl) (fun _ _ _ h => h) rfl (fun w9 hS9 => by have k0 := (Ext.cell hS9 (p := ⟨b,o + (k + 1) * 2,none⟩) hb).trans q0; have k1 := (Ext.cell hS9 (p := ⟨b,o + (k + 1) * 2 + 1,none⟩) hb).trans q1; have k2 := (Ext.cell hS9 (p := ⟨b,o + k * 2,none⟩) hb).trans hp0; go_simp; (try rfl)) hH ?_
         try simp only [Act.put,aT,aZ,aS]
         refine tk 2 rfl (by kernel_rfl) (fun _ _ _ h => h) rfl (fun w9 hS9 => by have k0 := (Ext.cell hS9 (p := ⟨b,o + (k + 1) * 2,none⟩) hb).trans q0; have k1 := (Ext.cell hS9 (p := ⟨b,o + (k + 1) * 2 + 1,none⟩) hb).trans q1; have k2 := (Ext.cell hS9 (p := ⟨b,o + k * 2,none⟩) hb).trans hp0; go_simp; (try rfl)) hH ?_
         try simp only [Act.put,aT,aZ,aS]
         refine tk 3 rfl (by kernel_rfl) (fun _ _ _ h => h) rfl (fun w9 hS9 => by have k0 := (Ext.cell hS9 (p := ⟨b,o + (k + 1) * 2,none⟩) hb).trans q0; have k1 := (Ext.cell hS9 (p := ⟨b,o + (k + 1) * 2 + 1,none⟩) hb).trans q1; have k2 := (Ext.cell hS9 (p := ⟨b,o + k * 2,none⟩) hb).trans hp0; go_simp; (try rfl)) hH ?_
         try simp only [Act.put,aT,aZ,aS]
         refine tk 4 rfl (by kernel_rfl) (fun _ _ _ h => h) rfl (fun w9 hS9 => by have k0 := (Ext.cell hS9 (p := ⟨b,o + (k + 1) * 2,none⟩) hb).trans q0; have k1 := (Ext.cell hS9 (p := ⟨b,o + (k + 1) * 2 + 1,none⟩) hb).trans q1; have k2 := (Ext.cell hS9 (p := ⟨b,o + k * 2,none⟩) hb).trans hp0; go_simp; (try rfl)) hH ?_
         try simp only [Act.put,aT,aZ,aS]
         refine wR (rs := [5]) (by kernel_rfl) (by simp) (aR rfl (fun K hK => ?_) aN)
         rw [if_pos (by rfl)]
         go_simp
         go_at_call 65
         (with_reducible refine (N _).mono ?_)
         rintro e wz ⟨rfl,xz⟩
         refine hK.out _ _ (Ext.trans hH xz) (fun hH => ?_)
         clear hK K
         try simp only [aT,aZ,aS]
         refine tk 6 rfl (by kernel_rfl) (fun _ _ _ h => h) rfl (fun w9 hS9 => by have k0 := (Ext.cell hS9 (p := ⟨b,o + (k + 1) * 2,none⟩) hb).trans q0; have k1 := (Ext.cell hS9 (p := ⟨b,o + (k + 1) * 2 + 1,none⟩) hb).trans q1; have k2 := (Ext.cell hS9 (p := ⟨b,o + k * 2,none⟩) hb).trans hp0; go_simp; (try rfl)) hH ?_
         try simp only [Act.put,aT,aZ,aS]
         refine tk 7 rfl (by kernel_rfl) (fun _ _ _ h => h) rfl (fun w9 hS9 => by have k0 := (Ext.cell hS9 (p := ⟨b,o + (k + 1) * 2,none⟩) hb).trans q0; have k1 := (Ext.cell hS9 (p := ⟨b,o + (k + 1) * 2 + 1,none⟩) hb).trans q1; have k2 := (Ext.cell hS9 (p := ⟨b,o + k * 2,none⟩) hb).trans hp0; go_simp; (try rfl)) hH ?_
         try simp only [Act.put,aT,aZ,aS]
         refine tk 8 rfl (by kernel_rfl) (fun _ _ _ h => h) rfl (fun w9 hS9 => by have k0 := (Ext.cell hS9 (p := ⟨b,o + (k + 1) * 2,none⟩) hb).trans q0; have k1 := (Ext.cell hS9 (p := ⟨b,o + (k + 1) * 2 + 1,none⟩) hb).trans q1; have k2 := (Ext.cell hS9 (p := ⟨b,o + k * 2,none⟩) hb).trans hp0; go_simp; (try rfl)) hH ?_
         try simp only [Act.put,aT,aZ,aS]
         refine tk 9 rfl (by kernel_rfl) (fun _ _ _ h => h) rfl (fun w9 hS9 => by have k0 := (Ext.cell hS9 (p := ⟨b,o + (k + 1) * 2,none⟩) hb).trans q0; have k1 := (Ext.cell hS9 (p := ⟨b,o + (k + 1) * 2 + 1,none⟩) hb).trans q1; have k2 := (Ext.cell hS9 (p := ⟨b,o + k * 2,none⟩) hb).trans hp0; go_simp; (try rfl)) hH ?_
         try simp only [Act.put,aT,aZ,aS]
         refine tk 10 rfl (by kernel_rfl) (fun _ _ _ h => h) rfl (fun w9 hS9 => by have k0 := (Ext.cell hS9 (p := ⟨b,o + (k + 1) * 2,none⟩) hb).trans q0; have k1 := (Ext.cell hS9 (p := ⟨b,o + (k + 1) * 2 + 1,none⟩) hb).trans q1; have k2 := (Ext.cell hS9 (p := ⟨b,o + k * 2,none⟩) hb).trans hp0; go_simp; (try rfl)) hH ?_
         try simp only [Act.put,aT,aZ,aS]
         refine tk 11 rfl (by kernel_rfl) (fun _ _ _ h => h) rfl (fun w9 hS9 => by have k0 := (Ext.cell hS9 (p := ⟨b,o + (k + 1) * 2,none⟩) hb).trans q0; have k1 := (Ext.cell hS9 (p := ⟨b,o + (k + 1) * 2 + 1,none⟩) hb).trans q1; have k2 := (Ext.cell hS9 (p := ⟨b,o + k * 2,none⟩) hb).trans hp0; go_simp; (try rfl)) hH ?_
         try simp only [Act.put,aT,aZ,aS]
         refine tk 12 rfl (by kernel_rfl) (fun _ _ _ h => h) rfl (fun w9 hS9 => by have k0 := (Ext.cell hS9 (p := ⟨b,o + (k + 1) * 2,none⟩) hb).trans q0; have k1 := (Ext.cell hS9 (p := ⟨b,o + (k + 1) * 2 + 1,none⟩) hb).trans q1; have k2 := (Ext.cell hS9 (p := ⟨b,o + k * 2,none⟩) hb).trans hp0; go_simp; (try rfl)) hH ?_
         try simp only [Act.put,aT,aZ,aS]
         refine wR (rs := [13]) (by kernel_rfl) (by simp) (aR rfl (fun K hK => ?_) aN)
         rw [if_pos (by rfl)]
         go_simp
         go_at_call 67
         (with_reducible refine (V _).mono ?_)
         rintro e wz ⟨rfl,xz⟩
         refine hK.out _ _ (Ext.trans hH xz) (fun hH => ?_)
         clear hK K
         try simp only [aT,aZ,aS]
         refine tk 14 rfl (by kernel_rfl) (fun _ _ _ h => h) rfl (fun w9 hS9 => by have k0 := (Ext.cell hS9 (p := ⟨b,o + (k + 1) * 2,none⟩) hb).trans q0; have k1 := (Ext.cell hS9 (p := ⟨b,o + (k + 1) * 2 + 1,none⟩) hb).trans q1; have k2 := (Ext.cell hS9 (p := ⟨b,o + k * 2,none⟩) hb).trans hp0; go_simp; (try rfl)) hH ?_
         try simp only [Act.put,aT,aZ,aS]
         refine tk 15 rfl (by kernel_rfl) (fun _ _ _ h => h) rfl (fun w9 hS9 => by have k0 := (Ext.cell hS9 (p := ⟨b,o + (k + 1) * 2,none⟩) hb).trans q0; have k1 := (Ext.cell hS9 (p := ⟨b,o + (k + 1) * 2 + 1,none⟩) hb).trans q1; have k2 := (Ext.cell hS9 (p := ⟨b,o + k * 2,none⟩) hb).trans hp0; go_simp; (try rfl)) hH ?_
         try simp only [Act.put,aT,aZ,aS]
         refine tk 16 rfl (by kernel_rfl) (fun _ _ _ h => h) rfl (fun w9 hS9 => by have k0 := (Ext.cell hS9 (p := ⟨b,o + (k + 1) * 2,none⟩) hb).trans q0; have k1 := (Ext.cell hS9 (p := ⟨b,o + (k + 1) * 2 + 1,none⟩) hb).trans q1; have k2 := (Ext.cell hS9 (p := ⟨b,o + k * 2,none⟩) hb).trans hp0; go_simp; (try rfl)) hH ?_
         try simp only [Act.put,aT,aZ,aS]
         refine tk 17 rfl (by kernel_rfl) (fun _ _ _ h => h) rfl (fun w9 hS9 => by have k0 := (Ext.cell hS9 (p := ⟨b,o + (k + 1) * 2,none⟩) hb).trans q0; have k1 := (Ext.cell hS9 (p := ⟨b,o + (k + 1) * 2 + 1,none⟩) hb).trans q1; have k2 := (Ext.cell hS9 (p := ⟨b,o + k * 2,none⟩) hb).trans hp0; go_simp; (try rfl)) hH ?_
         try simp only [Act.put,aT,aZ,aS]
         refine tk 18 rfl (by kernel_rfl) (fun _ _ _ h => h) rfl (fun w9 hS9 => by have k0 := (Ext.cell hS9 (p := ⟨b,o + (k + 1) * 2,none⟩) hb).trans q0; have k1 := (Ext.cell hS9 (p := ⟨b,o + (k + 1) * 2 + 1,none⟩) hb).trans q1; have k2 := (Ext.cell hS9 (p := ⟨b,o + k * 2,none⟩) hb).trans hp0; go_simp; (try rfl)) hH ?_
         try simp only [Act.put,aT,aZ,aS]
         refine tk 19 rfl (by kernel_rfl) (fun _ _ _ h => h) rfl (fun w9 hS9 => by have k0 := (Ext.cell hS9 (p := ⟨b,o + (k + 1) * 2,none⟩) hb).trans q0; have k1 := (Ext.cell hS9 (p := ⟨b,o + (k + 1) * 2 + 1,none⟩) hb).trans q1; have k2 := (Ext.cell hS9 (p := ⟨b,o + k * 2,none⟩) hb).trans hp0; go_simp; (try rfl)) hH ?_
         try simp only [Act.put,aT,aZ,aS]
         refine tk 20 rfl (by kernel_rfl) (fun _ _ _ h => h) rfl (fun w9 hS9 => by have k0 := (Ext.cell hS9 (p := ⟨b,o + (k + 1) * 2,none⟩) hb).trans q0; have k1 := (Ext.cell hS9 (p := ⟨b,o + (k + 1) * 2 + 1,none⟩) hb).trans q1; have k2 := (Ext.cell hS9 (p := ⟨b,o + k * 2,none⟩) hb).trans hp0; go_simp; (try rfl)) hH ?_
         try simp only [Act.put,aT,aZ,aS]
         refine tk 21 rfl (by kernel_rfl) (fun _ _ _ h => h) rfl (fun w9 hS9 => by have k0 := (Ext.cell hS9 (p := ⟨b,o + (k + 1) * 2,none⟩) hb).trans q0; have k1 := (Ext.cell hS9 (p := ⟨b,o + (k + 1) * 2 + 1,none⟩) hb).trans q1; have k2 := (Ext.cell hS9 (p := ⟨b,o + k * 2,none⟩) hb).trans hp0; go_simp; (try rfl)) hH ?_
         try simp only [Act.put,aT,aZ,aS]
         refine tk 22 rfl (by kernel_rfl) (fun _ _ _ h => h) rfl (fun w9 hS9 => by have k0 := (Ext.cell hS9 (p := ⟨b,o + (k + 1) * 2,none⟩) hb).trans q0; have k1 := (Ext.cell hS9 (p := ⟨b,o + (k + 1) * 2 + 1,none⟩) hb).trans q1; have k2 := (Ext.cell hS9 (p := ⟨b,o + k * 2,none⟩) hb).trans hp0; go_simp; (try rfl)) hH ?_
         try simp only [Act.put,aT,aZ,aS]
         refine tk 23 rfl (by kernel_rfl) (fun _ _ _ h => h) rfl (fun w9 hS9 => by have k0 := (Ext.cell hS9 (p := ⟨b,o + (k + 1) * 2,none⟩) hb).trans q0; have k1 := (Ext.cell hS9 (p := ⟨b,o + (k + 1) * 2 + 1,none⟩) hb).trans q1; have k2 := (Ext.cell hS9 (p := ⟨b,o + k * 2,none⟩) hb).trans hp0; go_simp; (try rfl)) hH ?_
         try simp only [Act.put,aT,aZ,aS]
         refine tk 24 rfl (by kernel_rfl) (fun _ _ _ h => h) rfl (fun w9 hS9 => by have k0 := (Ext.cell hS9 (p := ⟨b,o + (k + 1) * 2,none⟩) hb).trans q0; have k1 := (Ext.cell hS9 (p := ⟨b,o + (k + 1) * 2 + 1,none⟩) hb).trans q1; have k2 := (Ext.cell hS9 (p := ⟨b,o + k * 2,none⟩) hb).trans hp0; go_simp; (try rfl)) hH ?_
         try simp only [Act.put,aT,aZ,aS]
         refine tk 25 rfl (by kernel_rfl) (fun _ _ _ h => h) rfl (fun w9 hS9 => by have k0 := (Ext.cell hS9 (p := ⟨b,o + (k + 1) * 2,none⟩) hb).trans q0; have k1 := (Ext.cell hS9 (p := ⟨b,o + (k + 1) * 2 + 1,none⟩) hb).trans q1; have k2 := (Ext.cell hS9 (p := ⟨b,o + k * 2,none⟩) hb).trans hp0; go_simp; (try rfl)) hH ?_
         try simp only [Act.put,aT,aZ,aS]
         refine tk 26 rfl (by kernel_rfl) (fun _ _ _ h => h) rfl (fun w9 hS9 => by have k0 := (Ext.cell hS9 (p := ⟨b,o + (k + 1) * 2,none⟩) hb).trans q0; have k1 := (Ext.cell hS9 (p := ⟨b,o + (k + 1) * 2 + 1,none⟩) hb).trans q1; have k2 := (Ext.cell hS9 (p := ⟨b,o + k * 2,none⟩) hb).trans hp0; go_simp; (try rfl)) hH ?_
         try simp only [Act.put,aT,aZ,aS]
         refine tk 27 rfl (by kernel_rfl) (fun _ _ _ h => h) rfl (fun w9 hS9 => by have k0 := (Ext.cell hS9 (p := ⟨b,o + (k + 1) * 2,none⟩) hb).trans q0; have k1 := (Ext.cell hS9 (p := ⟨b,o + (k + 1) * 2 + 1,none⟩) hb).trans q1; have k2 := (Ext.cell hS9 (p := ⟨b,o + k * 2,none⟩) hb).trans hp0; go_simp; (try rfl)) hH ?_
         try simp only [Act.put,aT,aZ,aS]
         refine tk 28 rfl (by kernel_rfl) (fun _ _ _ h => h) rfl (fun w9 hS9 => by have k0 := (Ext.cell hS9 (p := ⟨b,o + (k + 1) * 2,none⟩) hb).trans q0; have k1 := (Ext.cell hS9 (p := ⟨b,o + (k + 1) * 2 + 1,none⟩) hb).trans q1; have k2 := (Ext.cell hS9 (p := ⟨b,o + k * 2,none⟩) hb).trans hp0; go_simp; (try rfl)) hH ?_
         try simp only [Act.put,aT,aZ,aS]
         refine tk 29 rfl (by kernel_rfl) (fun _ _ _ h => h) rfl (fun w9 hS9 => by have k0 := (Ext.cell hS9 (p := ⟨b,o + (k + 1) * 2,none⟩) hb).trans q0; have k1 := (Ext.cell hS9 (p := ⟨b,o + (k + 1) * 2 + 1,none⟩) hb).trans q1; have k2 := (Ext.cell hS9 (p := ⟨b,o + k * 2,none⟩) hb).trans hp0; go_simp; (try rfl)) hH ?_
         try simp only [Act.put,aT,aZ,aS]
         refine tk 30 rfl (by kernel_rfl) (fun _ _ _ h => h) rfl (fun w9 hS9 => by have k0 := (Ext.cell hS9 (p := ⟨b,o + (k + 1) * 2,none⟩) hb).trans q0; have k1 := (Ext.cell hS9 (p := ⟨b,o + (k + 1) * 2 + 1,none⟩) hb).trans q1; have k2 := (Ext.cell hS9 (p := ⟨b,o + k * 2,none⟩) hb).trans hp0; go_simp; (try rfl)) hH ?_
         try simp only [Act.put,aT,aZ,aS]
         refine tk 31 rfl (by kernel_rfl) (fun _ _ _ h => h) rfl (fun w9 hS9 => by have k0 := (Ext.cell hS9 (p := ⟨b,o + (k + 1) * 2,none⟩) hb).trans q0; have k1 := (Ext.cell hS9 (p := ⟨b,o + (k + 1) * 2 + 1,none⟩) hb).trans q1; have k2 := (Ext.cell hS9 (p := ⟨b,o + k * 2,none⟩) hb).trans hp0; go_simp; (try rfl)) hH ?_
         try simp only [Act.put,aT,aZ,aS]
         refine tk 32 rfl (by kernel_rfl) (fun _ _ _ h => h) rfl (fun w9 hS9 => by have k0 := (Ext.cell hS9 (p := ⟨b,o + (k + 1) * 2,none⟩) hb).trans q0; have k1 := (Ext.cell hS9 (p := ⟨b,o + (k + 1) * 2 + 1,none⟩) hb).trans q1; have k2 := (Ext.cell hS9 (p := ⟨b,o + k * 2,none⟩) hb).trans hp0; go_simp; (try rfl)) hH ?_
         try simp only [Act.put,aT,aZ,aS]
         refine tk 33 rfl (by kernel_rfl) (fun _ _ _ h => h) rfl (fun w9 hS9 => by have k0 := (Ext.cell hS9 (p := ⟨b,o + (k + 1) * 2,none⟩) hb).trans q0; have k1 := (Ext.cell hS9 (p := ⟨b,o + (k + 1) * 2 + 1,none⟩) hb).trans q1; have k2 := (Ext.cell hS9 (p := ⟨b,o + k * 2,none⟩) hb).trans hp0; go_simp; (try rfl)) hH ?_
         try simp only [Act.put,aT,aZ,aS]
         refine wpAnyH_done (by kernel_rfl) ?_ _
         go_wp2_with fail
         go_roundw
         case rel => exact ⟨k + 1 + 1,rfl,hlt,Lib.hid (by rw [htl]; exact hd1.out),hH⟩
         case measure => simp only [intOf]; omega
     ·rw [show valueB v = false from by simpa using hv] at V
      have HV : Hid (R = false) := Lib.hid (by
       rw [← hd]
       cases (l.take k).getLast?.map (·.1) <;> (unfold goodGo; rw [hn,show valueB v = false from by simpa using hv]; rfl))
      clear hd hn hv
      go_wp2_with fail
      refine wp_region_held_drew (S := Ext w) (by kernel_rfl) (xr.drew) (fun hH => ?_)
      refine tk 0 rfl (by kernel_rfl) (fun _ _ _ h => h) rfl (fun w9 hS9 => by have k0 := (Ext.cell hS9 (p := ⟨b,o + k * 2,none⟩) hb).trans q0; have k1 := (Ext.cell hS9 (p := ⟨b,o + k * 2 + 1,none⟩) hb).trans q1; go_simp; (try rfl)) hH ?_
      try simp only [Act.put,aT,aZ,aS]
      refine tk 1 rfl (by kernel_rfl) (fun _ _ _ h => h) rfl (fun w9 hS9 => by have k0 := (Ext.cell hS9 (p := ⟨b,o + k * 2,none⟩) hb).trans q0; have k1 := (Ext.cell hS9 (p := ⟨b,o + k * 2 + 1,none⟩) hb).trans q1; go_simp; (try rfl)) hH ?_
      try simp only [Act.put,aT,aZ,aS]
      refine tk 2 rfl (by kernel_rfl) (fun _ _ _ h => h) rfl (fun w9 hS9 => by have k0 := (Ext.cell hS9 (p := ⟨b,o + k * 2,none⟩) hb).trans q0; have k1 := (Ext.cell hS9 (p := ⟨b,o + k * 2 + 1,none⟩) hb).trans q1; go_simp; (try rfl)) hH ?_
      try simp only [Act.put,aT,aZ,aS]
      refine tk 3 rfl (by kernel_rfl) (fun _ _ _ h => h) rfl (fun w9 hS9 => by have k0 := (Ext.cell hS9 (p := ⟨b,o + k * 2,none⟩) hb).trans q0; have k1 := (Ext.cell hS9 (p := ⟨b,o + k * 2 + 1,none⟩) hb).trans q1; go_simp; (try rfl)) hH ?_
      try simp only [Act.put,aT,aZ,aS]
      refine tk 4 rfl (by kernel_rfl) (fun _ _ _ h => h) rfl (fun w9 hS9 => by have k0 := (Ext.cell hS9 (p := ⟨b,o + k * 2,none⟩) hb).trans q0; have k1 := (Ext.cell hS9 (p := ⟨b,o + k * 2 + 1,none⟩) hb).trans q1; go_simp; (try rfl)) hH ?_
      try simp only [Act.put,aT,aZ,aS]
      refine wR (rs := [5]) (by kernel_rfl) (by simp) (aR rfl (fun K hK => ?_) aN)
      rw [if_pos (by rfl)]
      go_simp
      go_at_call 65
      (with_reducible refine (N _).mono ?_)
      rintro e wz ⟨rfl,xz⟩
      refine hK.out _ _ (Ext.trans hH xz) (fun hH => ?_)
      clear hK K
      try simp only [aT,aZ,aS]
      refine tk 6 rfl (by kernel_rfl) (fun _ _ _ h => h) rfl (fun w9 hS9 => by have k0 := (Ext.cell hS9 (p := ⟨b,o + k * 2,none⟩) hb).trans q0; have k1 := (Ext.cell hS9 (p := ⟨b,o + k * 2 + 1,none⟩) hb).trans q1; go_simp; (try rfl)) hH ?_
      try simp only [Act.put,aT,aZ,aS]
      refine tk 7 rfl (by kernel_rfl) (fun _ _ _ h => h) rfl (fun w9 hS9 => by have k0 := (Ext.cell hS9 (p := ⟨b,o + k * 2,none⟩) hb).trans q0; have k1 := (Ext.cell hS9 (p := ⟨b,o + k * 2 + 1,none⟩) hb).trans q1; go_simp; (try rfl)) hH ?_
      try simp only [Act.put,aT,aZ,aS]
      refine tk 8 rfl (by kernel_rfl) (fun _ _ _ h => h) rfl (fun w9 hS9 => by have k0 := (Ext.cell hS9 (p := ⟨b,o + k * 2,none⟩) hb).trans q0; have k1 := (Ext.cell hS9 (p := ⟨b,o + k * 2 + 1,none⟩) hb).trans q1; go_simp; (try rfl)) hH ?_
      try simp only [Act.put,aT,aZ,aS]
      refine tk 9 rfl (by kernel_rfl) (fun _ _ _ h => h) rfl (fun w9 hS9 => by have k0 := (Ext.cell hS9 (p := ⟨b,o + k * 2,none⟩) hb).trans q0; have k1 := (Ext.cell hS9 (p := ⟨b,o + k * 2 + 1,none⟩) hb).trans q1; go_simp; (try rfl)) hH ?_
      try simp only [Act.put,aT,aZ,aS]
      refine tk 10 rfl (by kernel_rfl) (fun _ _ _ h => h) rfl (fun w9 hS9 => by have k0 := (Ext.cell hS9 (p := ⟨b,o + k * 2,none⟩) hb).trans q0; have k1 := (Ext.cell hS9 (p := ⟨b,o + k * 2 + 1,none⟩) hb).trans q1; go_simp; (try rfl)) hH ?_
      try simp only [Act.put,aT,aZ,aS]
      refine tk 11 rfl (by kernel_rfl) (fun _ _ _ h => h) rfl (fun w9 hS9 => by have k0 := (Ext.cell hS9 (p := ⟨b,o + k * 2,none⟩) hb).trans q0; have k1 := (Ext.cell hS9 (p := ⟨b,o + k * 2 + 1,none⟩) hb).trans q1; go_simp; (try rfl)) hH ?_
      try simp only [Act.put,aT,aZ,aS]
      refine tk 12 rfl (by kernel_rfl) (fun _ _ _ h => h) rfl (fun w9 hS9 => by have k0 := (Ext.cell hS9 (p := ⟨b,o + k * 2,none⟩) hb).trans q0; have k1 := (Ext.cell hS9 (p := ⟨b,o + k * 2 + 1,none⟩) hb).trans q1; go_simp; (try rfl)) hH ?_
      try simp only [Act.put,aT,aZ,aS]
      refine wR (rs := [13]) (by kernel_rfl) (by simp) (aR rfl (fun K hK => ?_) aN)
      rw [if_pos (by rfl)]
      go_simp
      go_at_call 67
      (with_reducible refine (V _).mono ?_)
      rintro e wz ⟨rfl,xz⟩
      refine hK.out _ _ (Ext.trans hH xz) (fun hH => ?_)
      clear hK K
      try simp only [aT,aZ,aS]
      refine tk 14 rfl (by kernel_rfl) (fun _ _ _ h => h) rfl (fun w9 hS9 => by have k0 := (Ext.cell hS9 (p := ⟨b,o + k * 2,none⟩) hb).trans q0; have k1 := (Ext.cell hS9 (p := ⟨b,o + k * 2 + 1,none⟩) hb).trans q1; go_simp; (try rfl)) hH ?_
      try simp only [Act.put,aT,aZ,aS]
      refine tk 15 rfl (by kernel_rfl) (fun _ _ _ h => h) rfl (fun w9 hS9 => by have k0 := (Ext.cell hS9 (p := ⟨b,o + k * 2,none⟩) hb).trans q0; have k1 := (Ext.cell hS9 (p := ⟨b,o + k * 2 + 1,none⟩) hb).trans q1; go_simp; (try rfl)) hH ?_
      try simp only [Act.put,aT,aZ,aS]
      refine tk 16 rfl (by kernel_rfl) (fun _ _ _ h => h) rfl (fun w9 hS9 => by have k0 := (Ext.cell hS9 (p := ⟨b,o + k * 2,none⟩) hb).trans q0; have k1 := (Ext.cell hS9 (p := ⟨b,o + k * 2 + 1,none⟩) hb).trans q1; go_simp; (try rfl)) hH ?_
      try simp only [Act.put,aT,aZ,aS]
      refine tk0 17 rfl (by kernel_rfl) (fun _ _ _ h => h) rfl hH ?_
      try simp only [Act.put,aT,aZ,aS]
      refine tk0 18 rfl (by kernel_rfl) (fun _ _ _ h => h) rfl hH ?_
      try simp only [Act.put,aT,aZ,aS]
      refine tk0 19 rfl (by kernel_rfl) (fun _ _ _ h => h) rfl hH ?_
      try simp only [Act.put,aT,aZ,aS]
      refine tk0 20 rfl (by kernel_rfl) (fun _ _ _ h => h) rfl hH ?_
      try simp only [Act.put,aT,aZ,aS]
      refine tk0 21 rfl (by kernel_rfl) (fun _ _ _ h => h) rfl hH ?_
      try simp only [Act.put,aT,aZ,aS]
      refine tk0 22 rfl (by kernel_rfl) (fun _ _ _ h => h) rfl hH ?_
      try simp only [Act.put,aT,aZ,aS]
      refine tk0 23 rfl (by kernel_rfl) (fun _ _ _ h => h) rfl hH ?_
      try simp only [Act.put,aT,aZ,aS]
      refine tk0 24 rfl (by kernel_rfl) (fun _ _ _ h => h) rfl hH ?_
      try simp only [Act.put,aT,aZ,aS]
      refine tk0 25 rfl (by kernel_rfl) (fun _ _ _ h => h) rfl hH ?_
      try simp only [Act.put,aT,aZ,aS]
      refine tk0 26 rfl (by kernel_rfl) (fun _ _ _ h => h) rfl hH ?_
      try simp only [Act.put,aT,aZ,aS]
      refine tk0 27 rfl (by kernel_rfl) (fun _ _ _ h => h) rfl hH ?_
      try simp only [Act.put,aT,aZ,aS]
      refine tk0 28 rfl (by kernel_rfl) (fun _ _ _ h => h) rfl hH ?_
      try simp only [Act.put,aT,aZ,aS]
      refine tk0 29 rfl (by kernel_rfl) (fun _ _ _ h => h) rfl hH ?_
      try simp only [Act.put,aT,aZ,aS]
      refine tk0 30 rfl (by kernel_rfl) (fun _ _ _ h => h) rfl hH ?_
      try simp only [Act.put,aT,aZ,aS]
      refine tk0 31 rfl (by kernel_rfl) (fun _ _ _ h => h) rfl hH ?_
      try simp only [Act.put,aT,aZ,aS]
      refine tk0 32 rfl (by kernel_rfl) (fun _ _ _ h => h) rfl hH ?_
      try simp only [Act.put,aT,aZ,aS]
      refine tk 33 rfl (by kernel_rfl) (fun _ _ _ h => h) rfl (fun w9 hS9 => by have k0 := (Ext.cell hS9 (p := ⟨b,o + k * 2,none⟩) hb).trans q0; have k1 := (Ext.cell hS9 (p := ⟨b,o + k * 2 + 1,none⟩) hb).trans q1; go_simp; (try rfl)) hH ?_
      try simp only [Act.put,aT,aZ,aS]
      refine wpAnyH_done (by kernel_rfl) ?_ _
      go_wp2_with fail
      go_ret
      exact ⟨retB HV.out.symm,hH⟩
    ·rw [show nameB n = false from by simpa using hn] at N
     have HV : Hid (R = false) := Lib.hid (by
      rw [← hd]
      cases (l.take k).getLast?.map (·.1) <;> (unfold goodGo; rw [show nameB n = false from by simpa using hn]; rfl))
     clear hd hn V
     go_wp2_with fail
     refine wp_region_held_drew (S := Ext w) (by kernel_rfl) (xr.drew) (fun hH => ?_)
     refine tk 0 rfl (by kernel_rfl) (fun _ _ _ h => h) rfl (fun w9 hS9 => by have k0 := (Ext.cell hS9 (p := ⟨b,o + k * 2,none⟩) hb).trans q0; have k1 := (Ext.cell hS9 (p := ⟨b,o + k * 2 + 1,none⟩) hb).trans q1; go_simp; (try rfl)) hH ?_
     try simp only [Act.put,aT,aZ,aS]
     refine tk 1 rfl (by kernel_rfl) (fun _ _ _ h => h) rfl (fun w9 hS9 => by have k0 := (Ext.cell hS9 (p := ⟨b,o + k * 2,none⟩) hb).trans q0; have k1 := (Ext.cell hS9 (p := ⟨b,o + k * 2 + 1,none⟩) hb).trans q1; go_simp; (try rfl)) hH ?_
     try simp only [Act.put,aT,aZ,aS]
     refine tk 2 rfl (by kernel_rfl) (fun _ _ _ h => h) rfl (fun w9 hS9 => by have k0 := (Ext.cell hS9 (p := ⟨b,o + k * 2,none⟩) hb).trans q0; have k1 := (Ext.cell hS9 (p := ⟨b,o + k * 2 + 1,none⟩) hb).trans q1; go_simp; (try rfl)) hH ?_
     try simp only [Act.put,aT,aZ,aS]
     refine tk 3 rfl (by kernel_rfl) (fun _ _ _ h => h) rfl (fun w9 hS9 => by have k0 := (Ext.cell hS9 (p := ⟨b,o + k * 2,none⟩) hb).trans q0; have k1 := (Ext.cell hS9 (p := ⟨b,o + k * 2 + 1,none⟩) hb).trans q1; go_simp; (try rfl)) hH ?_
     try simp only [Act.put,aT,aZ,aS]
     refine tk 4 rfl (by kernel_rfl) (fun _ _ _ h => h) rfl (fun w9 hS9 => by have k0 := (Ext.cell hS9 (p := ⟨b,o + k * 2,none⟩) hb).trans q0; have k1 := (Ext.cell hS9 (p := ⟨b,o + k * 2 + 1,none⟩) hb).trans q1; go_simp; (try rfl)) hH ?_
     try simp only [Act.put,aT,aZ,aS]
     refine wR (rs := [5]) (by kernel_rfl) (by simp) (aR rfl (fun K hK => ?_) aN)
     rw [if_pos (by rfl)]
     go_simp
     go_at_call 65
     (with_reducible refine (N _).mono ?_)
     rintro e wz ⟨rfl,xz⟩
     refine hK.out _ _ (Ext.trans hH xz) (fun hH => ?_)
     clear hK K
     try simp only [aT,aZ,aS]
     refine tk 6 rfl (by kernel_rfl) (fun _ _ _ h => h) rfl (fun w9 hS9 => by have k0 := (Ext.cell hS9 (p := ⟨b,o + k * 2,none⟩) hb).trans q0; have k1 := (Ext.cell hS9 (p := ⟨b,o + k * 2 + 1,none⟩) hb).trans q1; go_simp; (try rfl)) hH ?_
     try simp only [Act.put,aT,aZ,aS]
     refine tk 7 rfl (by kernel_rfl) (fun _ _ _ h => h) rfl (fun w9 hS9 => by have k0 := (Ext.cell hS9 (p := ⟨b,o + k * 2,none⟩) hb).trans q0; have k1 := (Ext.cell hS9 (p := ⟨b,o + k * 2 + 1,none⟩) hb).trans q1; go_simp; (try rfl)) hH ?_
     try simp only [Act.put,aT,aZ,aS]
     refine tk0 8 rfl (by kernel_rfl) (fun _ _ _ h => h) rfl hH ?_
     try simp only [Act.put,aT,aZ,aS]
     refine tk0 9 rfl (by kernel_rfl) (fun _ _ _ h => h) rfl hH ?_
     try simp only [Act.put,aT,aZ,aS]
     refine tk0 10 rfl (by kernel_rfl) (fun _ _ _ h => h) rfl hH ?_
     try simp only [Act.put,aT,aZ,aS]
     refine tk0 11 rfl (by kernel_rfl) (fun _ _ _ h => h) rfl hH ?_
     try simp only [Act.put,aT,aZ,aS]
     refine tk0 12 rfl (by kernel_rfl) (fun _ _ _ h => h) rfl hH ?_
     try simp only [Act.put,aT,aZ,aS]
     refine tk0 13 rfl (by kernel_rfl) (fun _ _ _ h => h) rfl hH ?_
     try simp only [Act.put,aT,aZ,aS]
     refine tk0 14 rfl (by kernel_rfl) (fun _ _ _ h => h) rfl hH ?_
     try simp only [Act.put,aT,aZ,aS]
     refine tk 15 rfl (by kernel_rfl) (fun _ _ _ h => h) rfl (fun w9 hS9 => by have k0 := (Ext.cell hS9 (p := ⟨b,o + k * 2,none⟩) hb).trans q0; have k1 := (Ext.cell hS9 (p := ⟨b,o + k * 2 + 1,none⟩) hb).trans q1; go_simp; (try rfl)) hH ?_
     try simp only [Act.put,aT,aZ,aS]
     refine tk 16 rfl (by kernel_rfl) (fun _ _ _ h => h) rfl (fun w9 hS9 => by have k0 := (Ext.cell hS9 (p := ⟨b,o + k * 2,none⟩) hb).trans q0; have k1 := (Ext.cell hS9 (p := ⟨b,o + k * 2 + 1,none⟩) hb).trans q1; go_simp; (try rfl)) hH ?_
     try simp only [Act.put,aT,aZ,aS]
     refine tk0 17 rfl (by kernel_rfl) (fun _ _ _ h => h) rfl hH ?_
     try simp only [Act.put,aT,aZ,aS]
     refine tk0 18 rfl (by kernel_rfl) (fun _ _ _ h => h) rfl hH ?_
     try simp only [Act.put,aT,aZ,aS]
     refine tk0 19 rfl (by kernel_rfl) (fun _ _ _ h => h) rfl hH ?_
     try simp only [Act.put,aT,aZ,aS]
     refine tk0 20 rfl (by kernel_rfl) (fun _ _ _ h => h) rfl hH ?_
     try simp only [Act.put,aT,aZ,aS]
     refine tk0 21 rfl (by kernel_rfl) (fun _ _ _ h => h) rfl hH ?_
     try simp only [Act.put,aT,aZ,aS]
     refine tk0 22 rfl (by kernel_rfl) (fun _ _ _ h => h) rfl hH ?_
     try simp only [Act.put,aT,aZ,aS]
     refine tk0 23 rfl (by kernel_rfl) (fun _ _ _ h => h) rfl hH ?_
     try simp only [Act.put,aT,aZ,aS]
     refine tk0 24 rfl (by kernel_rfl) (fun _ _ _ h => h) rfl hH ?_
     try simp only [Act.put,aT,aZ,aS]
     refine tk0 25 rfl (by kernel_rfl) (fun _ _ _ h => h) rfl hH ?_
     try simp only [Act.put,aT,aZ,aS]
     refine tk0 26 rfl (by kernel_rfl) (fun _ _ _ h => h) rfl hH ?_
     try simp only [Act.put,aT,aZ,aS]
     refine tk0 27 rfl (by kernel_rfl) (fun _ _ _ h => h) rfl hH ?_
     try simp only [Act.put,aT,aZ,aS]
     refine tk0 28 rfl (by kernel_rfl) (fun _ _ _ h => h) rfl hH ?_
     try simp only [Act.put,aT,aZ,aS]
     refine tk0 29 rfl (by kernel_rfl) (fun _ _ _ h => h) rfl hH ?_
     try simp only [Act.put,aT,aZ,aS]
     refine tk0 30 rfl (by kernel_rfl) (fun _ _ _ h => h) rfl hH ?_
     try simp only [Act.put,aT,aZ,aS]
     refine tk0 31 rfl (by kernel_rfl) (fun _ _ _ h => h) rfl hH ?_
     try simp only [Act.put,aT,aZ,aS]
     refine tk0 32 rfl (by kernel_rfl) (fun _ _ _ h => h) rfl hH ?_
     try simp only [Act.put,aT,aZ,aS]
     refine tk 33 rfl (by kernel_rfl) (fun _ _ _ h => h) rfl (fun w9 hS9 => by have k0 := (Ext.cell hS9 (p := ⟨b,o + k * 2,none⟩) hb).trans q0; have k1 := (Ext.cell hS9 (p := ⟨b,o + k * 2 + 1,none⟩) hb).trans q1; go_simp; (try rfl)) hH ?_
     try simp only [Act.put,aT,aZ,aS]
     refine wpAnyH_done (by kernel_rfl) ?_ _
     go_wp2_with fail
     go_ret
     exact ⟨retB HV.out.symm,hH⟩
   ·have hd := hg.out
    rw [show l.drop k = [] from List.drop_eq_nil_of_le (by omega)] at hd
    have h0 : goodGo ((l.take k).getLast?.map (·.1)) [] = true := by cases (l.take k).getLast?.map (·.1) <;> rfl
    rw [h0] at hd
    have hk3 : l.length ≤ k := by omega
    replace hd := Lib.hid hd
    clear hk hg h0 hA
    go_wp2_with fail
    go_ret
    exact ⟨retB hd.out,xr⟩
 ·rw [decide_eq_false h8,Bool.and_false] at hR
  have HV := Lib.hid hR
  clear hR hA hz
  go_enter Tryz.func99,Tryz.ntmps99
  go_wp2_with fail
  go_ret
  exact ⟨retB HV.out,Ext.refl _⟩
end Go.Proofs.YtjjnmefihdjglaaGreat
