import Derived.Test.YtjjnmefihdjglaaGreatPtF
import Derived.Test.YtjjnmefihdjglaaGreatRefCmp
namespace Go.Proofs.YtjjnmefihdjglaaGreat
open Go.RowKit
theorem good_at (k r : Int) (f : Bool) (M S m s : Int) (t : Bool) (T : Int) (b : Bool) (hb : goodPt k [] r f M S m s t T = b) (i1 : I64 M) (j1 : I64 S) (i2 : I64 m) (j2 : I64 s) (w : World) :
  Calls Tryz.prog 79 #[.int .i64 k, .agg #[.slice none 0 0, .int .i64 r, .bool f, .int .i64 M, .int .i64 S, .int .i64 m, .int .i64 s, .bool t, .int .i64 T]] w fun e w' => e = .returned (.bool b) ∧ Ext w w' := by
 have := ptGood_any k none 0 [] r f M S m s t T w (by simp) (LabA.nil _ _) (by intro x hx; cases hx) i1 j1 i2 j2
 rw [hb] at this
 exact this
theorem roles_len (k : Int) (w : World) :
  Calls Tryz.prog 109 #[.int .i64 k] w fun e w' => (∃ a c, e = .returned (.slice a (rolesOf k).length c) ∧ IntsV (.slice a (rolesOf k).length c) (rolesOf k) w') ∧ Ext w w' := by
 refine (Roles_any _ k w rfl).mono ?_
 rintro e w' ⟨⟨v, rfl, h⟩, x⟩
 refine ⟨?_, x⟩
 have h' := h
 rcases h with ⟨h1, rfl⟩ | ⟨b, rfl, h2⟩
 ·exact ⟨none, 0, by rw [h1]; rfl, by rw [h1] at h' ⊢; exact h'⟩
 ·exact ⟨_, _, rfl, h'⟩
def shortL (l : List (ByteArray × ByteArray)) : Bool := l.all (fun x => decide (x.1.size ≤ 100) && decide (x.2.size ≤ 100)) && decide (l.length ≤ 12)
end Go.Proofs.YtjjnmefihdjglaaGreat
namespace Go.Proofs.YtjjnmefihdjglaaGreat
open Go.RowKit
set_option maxHeartbeats 1000000 in
set_option maxRecDepth 100000 in
theorem rValue_any (s : ByteArray) (w : World) (hs : s.size ≤ 9223372036854775807) :
  Calls Tryz.prog 67 #[.string s] w fun e w' => e = .returned (.bool (valueB s)) ∧ Ext w w' := by
 have B := fun w => rBad_any s w hs
 obtain ⟨b, hb⟩ : ∃ b, badL (bs s) = b := ⟨_, rfl⟩
 rw [hb] at B
 by_cases h60 : s.size ≤ 60
 ·have HV : Hid (valueB s = decide (b < 0)) := Lib.hid (by unfold valueB; rw [decide_eq_true h60, Bool.true_and, hb])
  clear hb
  go_enter Tryz.func67, Tryz.ntmps67
  go_wp2_with fail
  (with_reducible refine (B _).mono ?_)
  rintro e w1 ⟨rfl, x1⟩
  go_wp2_with fail
  go_ret
  exact ⟨retB HV.out.symm, x1⟩
 ·have HV : Hid (valueB s = false) := Lib.hid (by unfold valueB; rw [decide_eq_false h60, Bool.false_and])
  clear hb
  go_enter Tryz.func67, Tryz.ntmps67
  go_wp2_with fail
  go_ret
  exact ⟨retB HV.out.symm, Ext.refl _⟩
set_option maxHeartbeats 2000000 in
set_option maxRecDepth 100000 in
theorem rName_any (s : ByteArray) (w : World) (hs : s.size ≤ 9223372036854775807) :
  Calls Tryz.prog 65 #[.string s] w fun e w' => e = .returned (.bool (nameB s)) ∧ Ext w w' := by
 have B := fun w => rBad_any s w hs
 obtain ⟨b, hb⟩ : ∃ b, badL (bs s) = b := ⟨_, rfl⟩
 rw [hb] at B
 obtain ⟨R, hR⟩ : ∃ R, nameB s = R := ⟨_, rfl⟩
 rw [hR]
 unfold nameB at hR
 rw [hb] at hR
 clear hb
 replace hR := Lib.hid hR
 go_enter Tryz.func65, Tryz.ntmps65
 go_wp2_with fail
 go_loopw [3] (fun i wr => ∃ k : Nat, i = .int .i64 k ∧ k ≤ s.size ∧ Hid (plainL ((bs s).drop k) = plainL (bs s)) ∧ wr = w) (fun i _ => s.size - (intOf i).toNat)
 case atStart => exact ⟨0, rfl, Nat.zero_le _, Lib.hid rfl, rfl⟩
 case round =>
  obtain ⟨k, rfl, hk, hz, rfl⟩ := hrel
  by_cases hlt : k < s.size
  ·have hd := hz.out
   rw [drop_bs s k hlt] at hd
   rw [plainL_cons] at hd
   clear hz
   by_cases h1 : 32 ≤ s[k].toNat
   ·rw [decide_eq_true h1, Bool.true_and] at hd
    by_cases h2 : s[k].toNat = 127
    ·rw [decide_eq_false (by omega), Bool.false_and] at hd
     have e2 : ((s[k].toNat : Int) == 127) = true := by rw [h2]; rfl
     have HV : Hid (R = false) := Lib.hid (by rw [← hR.out, ← hd, Bool.false_and])
     clear hR hd h2
     go_wp2_with fail
     go_ret
     exact ⟨retB HV.out.symm, Ext.refl _⟩
    ·rw [decide_eq_true h2, Bool.true_and] at hd
     have e2 : ((s[k].toNat : Int) == 127) = false := by simp; omega
     replace hd := Lib.hid hd
     clear h2
     go_wp2_with fail
     go_roundw
     case rel => exact ⟨k + 1, rfl, hlt, hd, by first | trivial | rfl⟩
     case measure => simp only [intOf]; omega
   ·rw [decide_eq_false h1, Bool.false_and] at hd
    have HV : Hid (R = false) := Lib.hid (by rw [← hR.out, ← hd, Bool.false_and])
    clear hR hd
    have h3 : (s[k].toNat : Int) < 32 := by omega
    go_wp2_with fail
    go_ret
    exact ⟨retB HV.out.symm, Ext.refl _⟩
  ·have hd := hz.out
   rw [drop_bs_nil s k (by omega)] at hd
   have hr := hR.out
   rw [← hd] at hr
   rw [show plainL [] = true from rfl, Bool.true_and] at hr
   clear hR hd hz
   have hk2 : s.size ≤ k := by omega
   by_cases h0 : 0 < s.size
   ·rw [decide_eq_true h0, Bool.true_and] at hr
    have e0 : s.toList.isEmpty = false := by rw [isEmpty_of, decide_eq_false (by omega)]
    by_cases h60 : s.size ≤ 60
    ·rw [decide_eq_true h60, Bool.true_and] at hr
     replace hr := Lib.hid hr
     clear hk hlt
     go_wp2_with fail
     (with_reducible refine (B _).mono ?_)
     rintro e w1 ⟨rfl, x1⟩
     go_wp2_with fail
     go_ret
     exact ⟨retB hr.out, x1⟩
    ·rw [decide_eq_false h60, Bool.false_and] at hr
     replace hr := Lib.hid hr
     clear hk hlt
     go_wp2_with fail
     go_ret
     exact ⟨retB hr.out, Ext.refl _⟩
   ·rw [decide_eq_false h0, Bool.false_and] at hr
    have e0 : s.toList.isEmpty = true := by rw [isEmpty_of, decide_eq_true (by omega)]
    replace hr := Lib.hid hr
    have h9 : (s.size : Int) < 1 := by omega
    clear hk hlt h0
    go_wp2_with fail
    go_ret
    exact ⟨retB hr.out, Ext.refl _⟩
set_option maxHeartbeats 4000000 in
set_option maxRecDepth 100000 in
theorem rGet_any (a : Option Addr) (c : Nat) (l : List (ByteArray × ByteArray)) (nm : ByteArray) (w : World) (hl : (l.length : Int) ≤ 9223372036854775807) (hA : LabA a l w) :
  Calls Tryz.prog 101 #[.slice a l.length c, .string nm] w fun e w' => e = .returned (.tuple #[.string (getL nm l).1, .bool (getL nm l).2]) ∧ Ext w w' := by
 obtain ⟨R, hR⟩ : ∃ R, getL nm l = R := ⟨_, rfl⟩
 rw [hR]
 replace hR := Lib.hid hR
 go_enter Tryz.func101, Tryz.ntmps101
 go_wp2_with fail
 go_loopw [6] (fun i wr => ∃ k : Nat, i = .int .i64 k ∧ k ≤ l.length ∧ Hid (getL nm (l.drop k) = R) ∧ Ext w wr) (fun i _ => l.length - (intOf i).toNat)
 case atStart => exact ⟨0, rfl, Nat.zero_le _, Lib.hid hR.out, Ext.refl _⟩
 case round =>
  obtain ⟨k, rfl, hk, hg, xr⟩ := hrel
  by_cases hlt : k < l.length
  ·have hd := hg.out
   rw [List.drop_eq_getElem_cons hlt] at hd
   obtain ⟨b, o, rfl, hb, hL⟩ := hA (by omega)
   obtain ⟨q0, q1⟩ := hL k hlt
   have r0 := (xr.cell (p := ⟨b, o + k * 2, none⟩) hb).trans q0
   have r1 := (xr.cell (p := ⟨b, o + k * 2 + 1, none⟩) hb).trans q1
   obtain ⟨n, v, hx⟩ : ∃ n v, l[k] = (n, v) := ⟨_, _, rfl⟩
   rw [hx] at hd r0 r1
   dsimp only at r0 r1
   unfold getL at hd
   dsimp only at hd
   have se := same_is n nm
   clear q0 q1 hg hR
   by_cases h0 : cmpS n nm = 0
   ·rw [decide_eq_true h0] at se
    rw [if_pos h0] at hd
    have e1 : Hid (v = R.1 ∧ true = R.2) := Lib.hid (by rw [← hd]; exact ⟨rfl, rfl⟩)
    clear hd h0
    go_wp2_with fail
    go_ret2
    exact ⟨ret2 (congrArg Value.string e1.out.1) (congrArg Value.bool e1.out.2), xr⟩
   ·rw [decide_eq_false h0] at se
    rw [if_neg h0] at hd
    replace hd := Lib.hid hd
    clear h0
    go_wp2_with fail
    go_roundw
    case rel => exact ⟨k + 1, rfl, hlt, hd, xr⟩
    case measure => simp only [intOf]; omega
  ·have hd := hg.out
   rw [show l.drop k = [] from List.drop_eq_nil_of_le (by omega)] at hd
   have e1 : Hid ((⟨#[]⟩ : ByteArray) = R.1 ∧ false = R.2) := Lib.hid (by rw [← hd]; exact ⟨rfl, rfl⟩)
   have hk3 : l.length ≤ k := by omega
   clear hk hd hg hR hA
   go_wp2_with fail
   go_ret2
   exact ⟨ret2 (congrArg Value.string e1.out.1) (congrArg Value.bool e1.out.2), xr⟩
set_option maxRecDepth 100000 in
theorem rRoles_any (F : Nat) (k : Int) (w : World) (hF : F = 124) :
  Calls Tryz.prog F #[.int .i64 k] w fun e w' => (∃ v, e = .returned v ∧ IntsV v (rolesOf k) w') ∧ Ext w w' := by
 subst hF
 have mk : ∀ (l : List Int) (o : Obj), o = .cells (l.map fun x => Value.int .i64 x).toArray 3 → ∀ n c, n = l.length → c = l.length → (∃ v, Ending.returned (.slice (some ⟨w.heap.size, 0, none⟩) n c) = .returned v ∧ IntsV v l (w.alloc o)) ∧ Ext w (w.alloc o) := by
  rintro l o rfl n c rfl rfl
  exact ⟨⟨_, rfl, .inr ⟨w.heap.size, rfl, by rw [heap_size_alloc]; omega, IntsAt.mk l (heap_last _ _)⟩⟩, (Ext.refl _).alloc _⟩
 unfold rolesOf
 by_cases h0 : k = 0
 ·subst h0
  rw [if_pos (by decide)]
  go_enter Tryz.func124, Tryz.ntmps124
  go_wp2_with fail
  go_ret
  exact mk [0] _ rfl _ _ rfl rfl
 ·by_cases h1 : k = 1
  ·subst h1
   rw [if_pos (by decide)]
   go_enter Tryz.func124, Tryz.ntmps124
   go_wp2_with fail
   go_ret
   exact mk [0] _ rfl _ _ rfl rfl
  ·by_cases h2 : k = 2
   ·subst h2
    rw [if_pos (by decide)]
    go_enter Tryz.func124, Tryz.ntmps124
    go_wp2_with fail
    go_ret
    exact mk [0] _ rfl _ _ rfl rfl
   ·rw [if_neg (by omega)]
    by_cases h3 : k = 3
    ·subst h3
     rw [if_pos rfl]
     go_enter Tryz.func124, Tryz.ntmps124
     go_wp2_with fail
     go_ret
     exact mk [1, 3, 4] _ rfl _ _ rfl rfl
    ·rw [if_neg h3]
     by_cases h4 : k = 4
     ·subst h4
      rw [if_pos rfl]
      go_enter Tryz.func124, Tryz.ntmps124
      go_wp2_with fail
      go_ret
      exact mk [2, 3, 4] _ rfl _ _ rfl rfl
     ·rw [if_neg h4]
      go_enter Tryz.func124, Tryz.ntmps124
      go_wp2_with fail
      go_ret
      exact ⟨⟨_, rfl, .inl ⟨rfl, rfl⟩⟩, Ext.refl _⟩
set_option maxHeartbeats 2000000 in
set_option maxRecDepth 100000 in
theorem rHasRole_any (k r : Int) (w : World) :
  Calls Tryz.prog 98 #[.int .i64 k, .int .i64 r] w fun e w' => e = .returned (.bool (decide (r ∈ rolesOf k))) ∧ Ext w w' := by
 have C := fun w => rRoles_any _ k w rfl
 have hL : (rolesOf k).length ≤ 3 := by unfold rolesOf; (repeat' split) <;> decide
 obtain ⟨R, hR⟩ : ∃ R, decide (r ∈ rolesOf k) = R := ⟨_, rfl⟩
 rw [hR]
 generalize rolesOf k = l at *
 go_enter Tryz.func98, Tryz.ntmps98
 go_wp2_with fail
 (with_reducible refine (C _).mono ?_)
 rintro e W ⟨⟨v, rfl, hv⟩, hx⟩
 clear C
 rcases hv with ⟨rfl, rfl⟩ | ⟨b, rfl, hb, hc⟩
 ·have HV : Hid (R = false) := Lib.hid (by rw [← hR]; simp)
  clear hR
  go_wp2_with fail
  refine wp_loop_rounds 1 ?_
  rw [rounds_succ]
  go_wp2_with fail
  go_ret
  exact ⟨retB HV.out.symm, hx⟩
 ·go_wp2_with fail
  go_loopw [6] (fun i wr => ∃ j : Nat, i = .int .i64 j ∧ j ≤ l.length ∧ Hid (decide (r ∈ l.drop j) = R) ∧ wr = W) (fun i _ => l.length - (intOf i).toNat)
  case atStart => exact ⟨0, rfl, Nat.zero_le _, Lib.hid hR, rfl⟩
  case round =>
   obtain ⟨j, rfl, hk, hz, rfl⟩ := hrel
   by_cases hlt : j < l.length
   ·have g := hc j hlt
    have hd := hz.out
    rw [List.drop_eq_getElem_cons hlt] at hd
    rw [Nat.zero_add] at g
    generalize l[j] = y at *
    clear hz hR hc
    by_cases h0 : y = r
    ·subst h0
     have HV : Hid (R = true) := Lib.hid (by rw [← hd]; simp)
     clear hd
     go_wp2_with fail
     go_ret
     exact ⟨retB HV.out.symm, hx⟩
    ·have HV : Hid (decide (r ∈ l.drop (j + 1)) = R) := Lib.hid (by rw [← hd]; simp [Ne.symm h0])
     clear hd
     go_wp2_with fail
     go_roundw
     case rel => exact ⟨j + 1, rfl, hlt, HV, by first | trivial | rfl⟩
     case measure => simp only [intOf]; omega
   ·have hd := hz.out
    rw [List.drop_eq_nil_of_le (by omega)] at hd
    have hk2 : l.length ≤ j := by omega
    have HV : Hid (R = false) := Lib.hid (by rw [← hd]; simp)
    clear hz hR hk hd hc
    go_wp2_with fail
    go_ret
    exact ⟨retB HV.out.symm, hx⟩
set_option maxRecDepth 100000 in
theorem rIsTime_any (T : Int) (w : World) :
  Calls Tryz.prog 100 #[.int .i64 T] w fun e w' => e = .returned (.bool (decide (-1125899906842624 ≤ T) && decide (T ≤ 1125899906842624))) ∧ Ext w w' := by
 obtain ⟨R, hR⟩ : ∃ R, (decide (-1125899906842624 ≤ T) && decide (T ≤ 1125899906842624)) = R := ⟨_, rfl⟩
 rw [hR]
 by_cases h1 : -1125899906842624 ≤ T
 ·have n1 : binOp .geq 2 (.int .i64 T) (.int .i64 (-1125899906842624)) = pure (.bool true) := by
   simp only [go_sem]; rw [show decide (T ≥ -1125899906842624) = true from decide_eq_true h1]
  by_cases h2 : T ≤ 1125899906842624
  ·have n2 : binOp .leq 2 (.int .i64 T) (.int .i64 1125899906842624) = pure (.bool true) := by
    simp only [go_sem]; rw [show decide (T ≤ 1125899906842624) = true from decide_eq_true h2]
   have HV : Hid (R = true) := Lib.hid (by rw [← hR]; simp [h1, h2])
   clear hR h1 h2
   go_enter Tryz.func100, Tryz.ntmps100
   go_wp2_with fail
   go_ret
   exact ⟨retB HV.out.symm, Ext.refl _⟩
  ·have n2 : binOp .leq 2 (.int .i64 T) (.int .i64 1125899906842624) = pure (.bool false) := by
    simp only [go_sem]; rw [show decide (T ≤ 1125899906842624) = false from decide_eq_false h2]
   have HV : Hid (R = false) := Lib.hid (by rw [← hR]; simp [h2])
   clear hR h1 h2
   go_enter Tryz.func100, Tryz.ntmps100
   go_wp2_with fail
   go_ret
   exact ⟨retB HV.out.symm, Ext.refl _⟩
 ·have n1 : binOp .geq 2 (.int .i64 T) (.int .i64 (-1125899906842624)) = pure (.bool false) := by
   simp only [go_sem]; rw [show decide (T ≥ -1125899906842624) = false from decide_eq_false h1]
  have HV : Hid (R = false) := Lib.hid (by rw [← hR]; simp [h1])
  clear hR h1
  go_enter Tryz.func100, Tryz.ntmps100
  go_wp2_with fail
  go_ret
  exact ⟨retB HV.out.symm, Ext.refl _⟩
set_option maxHeartbeats 8000000 in
set_option maxRecDepth 100000 in
theorem rLabels_any (a : Option Addr) (c : Nat) (l : List (ByteArray × ByteArray)) (w : World) (hl : (l.length : Int) ≤ 9223372036854775807) (hA : LabA a l w) (hz : ∀ x ∈ l, x.1.size ≤ 9223372036854775807 ∧ x.2.size ≤ 9223372036854775807) :
  Calls Tryz.prog 99 #[.slice a l.length c] w fun e w' => e = .returned (.bool (goodLs l)) ∧ Ext w w' := by
 obtain ⟨R, hR⟩ : ∃ R, goodLs l = R := ⟨_, rfl⟩
 rw [hR]
 unfold goodLs at hR
 by_cases h8 : l.length ≤ 8
 ·rw [decide_eq_true h8, Bool.and_true] at hR
  replace hR := Lib.hid hR
  go_enter Tryz.func99, Tryz.ntmps99
  go_wp2_with fail
  go_loopw [3] (fun i wr => ∃ k : Nat, i = .int .i64 k ∧ k ≤ l.length ∧ Hid (goodGo ((l.take k).getLast?.map (·.1)) (l.drop k) = R) ∧ Ext w wr) (fun i _ => l.length - (intOf i).toNat)
  case atStart => exact ⟨0, rfl, Nat.zero_le _, hR, Ext.refl _⟩
  case round =>
   obtain ⟨k, rfl, hk, hg, xr⟩ := hrel
   clear hR
   by_cases hlt : k < l.length
   ·have hd := hg.out
    rw [List.drop_eq_getElem_cons hlt] at hd
    obtain ⟨b, o, rfl, hb, hL⟩ := hA (by omega)
    obtain ⟨q0, q1⟩ := hL k hlt
    obtain ⟨z1, z2⟩ := hz l[k] (List.getElem_mem hlt)
    have htl := take_last l k hlt
    obtain ⟨n, v, hx⟩ : ∃ n v, l[k] = (n, v) := ⟨_, _, rfl⟩
    rw [hx] at hd q0 q1 z1 z2 htl
    dsimp only at q0 q1 z1 z2 htl
    have N := fun w => rName_any n w z1
    have V := fun w => rValue_any v w z2
    have e2 : (k : Int) < (l.length : Int) := by omega
    clear hg hz
    by_cases hn : nameB n = true
    ·rw [hn] at N
     by_cases hv : valueB v = true
     ·rw [hv] at V
      cases k with
      | zero =>
        rw [Nat.zero_mul, Nat.add_zero] at q0 q1
        have hd2 : goodGo (some n) (l.drop 1) = R := by
         rw [← hd]
         show _ = goodGo none ((n, v) :: l.drop 1)
         unfold goodGo
         rw [hn, hv, Bool.true_and, Bool.true_and]
         cases l.drop 1 <;> rfl
        replace hd2 := Lib.hid hd2
        clear hd hn hv
        go_wp2_with fail
        refine wp_region_held_drew (S := Ext w) (by kernel_rfl) (xr.drew) (fun hHeld => ?_)
        refine wpAnyH_take (i := 0) (oi := ?oim1) (v := ?vm1) ?him1 (by kernel_rfl) (by kernel_rfl) (by kernel_rfl) ?hQm1 (Or.inl ⟨?hwm1, ?hym1⟩) hHeld ?restm1
        case him1 => simp only [List.getElem?_toArray, List.getElem?_cons_zero]; rfl
        case hQm1 => exact fun _ _ _ h => h
        case hwm1 => rfl
        case hym1 => (intro w9 hSw; have k0 := (Ext.cell hSw (p := ⟨b, o, none⟩) hb).trans q0; have k1 := (Ext.cell hSw (p := ⟨b, o + 1, none⟩) hb).trans q1; go_simp; (try with_reducible rfl))
        case restm1 =>
        try simp only [Act.put, List.setIfInBounds_toArray, List.set_cons_zero, List.set_cons_succ]
        refine wpAnyH_take (i := 1) (oi := ?oim2) (v := ?vm2) ?him2 (by kernel_rfl) (by kernel_rfl) (by kernel_rfl) ?hQm2 (Or.inl ⟨?hwm2, ?hym2⟩) hHeld ?restm2
        case him2 => simp only [List.getElem?_toArray, List.getElem?_cons_succ, List.getElem?_cons_zero]; rfl
        case hQm2 => exact fun _ _ _ h => h
        case hwm2 => rfl
        case hym2 => (intro w9 hSw; have k0 := (Ext.cell hSw (p := ⟨b, o, none⟩) hb).trans q0; have k1 := (Ext.cell hSw (p := ⟨b, o + 1, none⟩) hb).trans q1; go_simp; (try with_reducible rfl))
        case restm2 =>
        try simp only [Act.put, List.setIfInBounds_toArray, List.set_cons_zero, List.set_cons_succ]
        refine wpAnyH_take (i := 2) (oi := ?oim3) (v := ?vm3) ?him3 (by kernel_rfl) (by kernel_rfl) (by kernel_rfl) ?hQm3 (Or.inl ⟨?hwm3, ?hym3⟩) hHeld ?restm3
        case him3 => simp only [List.getElem?_toArray, List.getElem?_cons_succ, List.getElem?_cons_zero]; rfl
        case hQm3 => exact fun _ _ _ h => h
        case hwm3 => rfl
        case hym3 => (intro w9 hSw; have k0 := (Ext.cell hSw (p := ⟨b, o, none⟩) hb).trans q0; have k1 := (Ext.cell hSw (p := ⟨b, o + 1, none⟩) hb).trans q1; go_simp; (try with_reducible rfl))
        case restm3 =>
        try simp only [Act.put, List.setIfInBounds_toArray, List.set_cons_zero, List.set_cons_succ]
        refine wpAnyH_take (i := 3) (oi := ?oim4) (v := ?vm4) ?him4 (by kernel_rfl) (by kernel_rfl) (by kernel_rfl) ?hQm4 (Or.inl ⟨?hwm4, ?hym4⟩) hHeld ?restm4
        case him4 => simp only [List.getElem?_toArray, List.getElem?_cons_succ, List.getElem?_cons_zero]; rfl
        case hQm4 => exact fun _ _ _ h => h
        case hwm4 => rfl
        case hym4 => (intro w9 hSw; have k0 := (Ext.cell hSw (p := ⟨b, o, none⟩) hb).trans q0; have k1 := (Ext.cell hSw (p := ⟨b, o + 1, none⟩) hb).trans q1; go_simp; (try with_reducible rfl))
        case restm4 =>
        try simp only [Act.put, List.setIfInBounds_toArray, List.set_cons_zero, List.set_cons_succ]
        refine wpAnyH_take (i := 4) (oi := ?oim5) (v := ?vm5) ?him5 (by kernel_rfl) (by kernel_rfl) (by kernel_rfl) ?hQm5 (Or.inl ⟨?hwm5, ?hym5⟩) hHeld ?restm5
        case him5 => simp only [List.getElem?_toArray, List.getElem?_cons_succ, List.getElem?_cons_zero]; rfl
        case hQm5 => exact fun _ _ _ h => h
        case hwm5 => rfl
        case hym5 => (intro w9 hSw; have k0 := (Ext.cell hSw (p := ⟨b, o, none⟩) hb).trans q0; have k1 := (Ext.cell hSw (p := ⟨b, o + 1, none⟩) hb).trans q1; go_simp; (try with_reducible rfl))
        case restm5 =>
        try simp only [Act.put, List.setIfInBounds_toArray, List.set_cons_zero, List.set_cons_succ]
        refine wpAnyH_ready (rs := [5]) (by kernel_rfl) (by simp) (AllReadyH.cons (o := ?om6) ?im6 (fun K hK => ?_) AllReadyH.nil)
        case im6 => simp only [List.getElem?_toArray, List.getElem?_cons_succ, List.getElem?_cons_zero]; rfl
        rw [if_pos (by rfl)]
        go_simp
        go_at_call 65
        (with_reducible refine (N _).mono ?_)
        rintro e wz ⟨rfl, xz⟩
        refine hK.out _ _ (Ext.trans hHeld xz) (fun hHeld => ?_)
        clear hK K
        try simp only [List.setIfInBounds_toArray, List.set_cons_zero, List.set_cons_succ]
        refine wpAnyH_take (i := 6) (oi := ?oim7) (v := ?vm7) ?him7 (by kernel_rfl) (by kernel_rfl) (by kernel_rfl) ?hQm7 (Or.inl ⟨?hwm7, ?hym7⟩) hHeld ?restm7
        case him7 => simp only [List.getElem?_toArray, List.getElem?_cons_succ, List.getElem?_cons_zero]; rfl
        case hQm7 => exact fun _ _ _ h => h
        case hwm7 => rfl
        case hym7 => (intro w9 hSw; have k0 := (Ext.cell hSw (p := ⟨b, o, none⟩) hb).trans q0; have k1 := (Ext.cell hSw (p := ⟨b, o + 1, none⟩) hb).trans q1; go_simp; (try with_reducible rfl))
        case restm7 =>
        try simp only [Act.put, List.setIfInBounds_toArray, List.set_cons_zero, List.set_cons_succ]
        refine wpAnyH_take (i := 7) (oi := ?oim8) (v := ?vm8) ?him8 (by kernel_rfl) (by kernel_rfl) (by kernel_rfl) ?hQm8 (Or.inl ⟨?hwm8, ?hym8⟩) hHeld ?restm8
        case him8 => simp only [List.getElem?_toArray, List.getElem?_cons_succ, List.getElem?_cons_zero]; rfl
        case hQm8 => exact fun _ _ _ h => h
        case hwm8 => rfl
        case hym8 => (intro w9 hSw; have k0 := (Ext.cell hSw (p := ⟨b, o, none⟩) hb).trans q0; have k1 := (Ext.cell hSw (p := ⟨b, o + 1, none⟩) hb).trans q1; go_simp; (try with_reducible rfl))
        case restm8 =>
        try simp only [Act.put, List.setIfInBounds_toArray, List.set_cons_zero, List.set_cons_succ]
        refine wpAnyH_take (i := 8) (oi := ?oim9) (v := ?vm9) ?him9 (by kernel_rfl) (by kernel_rfl) (by kernel_rfl) ?hQm9 (Or.inl ⟨?hwm9, ?hym9⟩) hHeld ?restm9
        case him9 => simp only [List.getElem?_toArray, List.getElem?_cons_succ, List.getElem?_cons_zero]; rfl
        case hQm9 => exact fun _ _ _ h => h
        case hwm9 => rfl
        case hym9 => (intro w9 hSw; have k0 := (Ext.cell hSw (p := ⟨b, o, none⟩) hb).trans q0; have k1 := (Ext.cell hSw (p := ⟨b, o + 1, none⟩) hb).trans q1; go_simp; (try with_reducible rfl))
        case restm9 =>
        try simp only [Act.put, List.setIfInBounds_toArray, List.set_cons_zero, List.set_cons_succ]
        refine wpAnyH_take (i := 9) (oi := ?oim10) (v := ?vm10) ?him10 (by kernel_rfl) (by kernel_rfl) (by kernel_rfl) ?hQm10 (Or.inl ⟨?hwm10, ?hym10⟩) hHeld ?restm10
        case him10 => simp only [List.getElem?_toArray, List.getElem?_cons_succ, List.getElem?_cons_zero]; rfl
        case hQm10 => exact fun _ _ _ h => h
        case hwm10 => rfl
        case hym10 => (intro w9 hSw; have k0 := (Ext.cell hSw (p := ⟨b, o, none⟩) hb).trans q0; have k1 := (Ext.cell hSw (p := ⟨b, o + 1, none⟩) hb).trans q1; go_simp; (try with_reducible rfl))
        case restm10 =>
        try simp only [Act.put, List.setIfInBounds_toArray, List.set_cons_zero, List.set_cons_succ]
        refine wpAnyH_take (i := 10) (oi := ?oim11) (v := ?vm11) ?him11 (by kernel_rfl) (by kernel_rfl) (by kernel_rfl) ?hQm11 (Or.inl ⟨?hwm11, ?hym11⟩) hHeld ?restm11
        case him11 => simp only [List.getElem?_toArray, List.getElem?_cons_succ, List.getElem?_cons_zero]; rfl
        case hQm11 => exact fun _ _ _ h => h
        case hwm11 => rfl
        case hym11 => (intro w9 hSw; have k0 := (Ext.cell hSw (p := ⟨b, o, none⟩) hb).trans q0; have k1 := (Ext.cell hSw (p := ⟨b, o + 1, none⟩) hb).trans q1; go_simp; (try with_reducible rfl))
        case restm11 =>
        try simp only [Act.put, List.setIfInBounds_toArray, List.set_cons_zero, List.set_cons_succ]
        refine wpAnyH_take (i := 11) (oi := ?oim12) (v := ?vm12) ?him12 (by kernel_rfl) (by kernel_rfl) (by kernel_rfl) ?hQm12 (Or.inl ⟨?hwm12, ?hym12⟩) hHeld ?restm12
        case him12 => simp only [List.getElem?_toArray, List.getElem?_cons_succ, List.getElem?_cons_zero]; rfl
        case hQm12 => exact fun _ _ _ h => h
        case hwm12 => rfl
        case hym12 => (intro w9 hSw; have k0 := (Ext.cell hSw (p := ⟨b, o, none⟩) hb).trans q0; have k1 := (Ext.cell hSw (p := ⟨b, o + 1, none⟩) hb).trans q1; go_simp; (try with_reducible rfl))
        case restm12 =>
        try simp only [Act.put, List.setIfInBounds_toArray, List.set_cons_zero, List.set_cons_succ]
        refine wpAnyH_take (i := 12) (oi := ?oim13) (v := ?vm13) ?him13 (by kernel_rfl) (by kernel_rfl) (by kernel_rfl) ?hQm13 (Or.inl ⟨?hwm13, ?hym13⟩) hHeld ?restm13
        case him13 => simp only [List.getElem?_toArray, List.getElem?_cons_succ, List.getElem?_cons_zero]; rfl
        case hQm13 => exact fun _ _ _ h => h
        case hwm13 => rfl
        case hym13 => (intro w9 hSw; have k0 := (Ext.cell hSw (p := ⟨b, o, none⟩) hb).trans q0; have k1 := (Ext.cell hSw (p := ⟨b, o + 1, none⟩) hb).trans q1; go_simp; (try with_reducible rfl))
        case restm13 =>
        try simp only [Act.put, List.setIfInBounds_toArray, List.set_cons_zero, List.set_cons_succ]
        refine wpAnyH_ready (rs := [13]) (by kernel_rfl) (by simp) (AllReadyH.cons (o := ?om14) ?im14 (fun K hK => ?_) AllReadyH.nil)
        case im14 => simp only [List.getElem?_toArray, List.getElem?_cons_succ, List.getElem?_cons_zero]; rfl
        rw [if_pos (by rfl)]
        go_simp
        go_at_call 67
        (with_reducible refine (V _).mono ?_)
        rintro e wz ⟨rfl, xz⟩
        refine hK.out _ _ (Ext.trans hHeld xz) (fun hHeld => ?_)
        clear hK K
        try simp only [List.setIfInBounds_toArray, List.set_cons_zero, List.set_cons_succ]
        refine wpAnyH_take (i := 14) (oi := ?oim15) (v := ?vm15) ?him15 (by kernel_rfl) (by kernel_rfl) (by kernel_rfl) ?hQm15 (Or.inl ⟨?hwm15, ?hym15⟩) hHeld ?restm15
        case him15 => simp only [List.getElem?_toArray, List.getElem?_cons_succ, List.getElem?_cons_zero]; rfl
        case hQm15 => exact fun _ _ _ h => h
        case hwm15 => rfl
        case hym15 => (intro w9 hSw; have k0 := (Ext.cell hSw (p := ⟨b, o, none⟩) hb).trans q0; have k1 := (Ext.cell hSw (p := ⟨b, o + 1, none⟩) hb).trans q1; go_simp; (try with_reducible rfl))
        case restm15 =>
        try simp only [Act.put, List.setIfInBounds_toArray, List.set_cons_zero, List.set_cons_succ]
        refine wpAnyH_take (i := 15) (oi := ?oim16) (v := ?vm16) ?him16 (by kernel_rfl) (by kernel_rfl) (by kernel_rfl) ?hQm16 (Or.inl ⟨?hwm16, ?hym16⟩) hHeld ?restm16
        case him16 => simp only [List.getElem?_toArray, List.getElem?_cons_succ, List.getElem?_cons_zero]; rfl
        case hQm16 => exact fun _ _ _ h => h
        case hwm16 => rfl
        case hym16 => (intro w9 hSw; have k0 := (Ext.cell hSw (p := ⟨b, o, none⟩) hb).trans q0; have k1 := (Ext.cell hSw (p := ⟨b, o + 1, none⟩) hb).trans q1; go_simp; (try with_reducible rfl))
        case restm16 =>
        try simp only [Act.put, List.setIfInBounds_toArray, List.set_cons_zero, List.set_cons_succ]
        refine wpAnyH_take (i := 16) (oi := ?oim17) (v := ?vm17) ?him17 (by kernel_rfl) (by kernel_rfl) (by kernel_rfl) ?hQm17 (Or.inl ⟨?hwm17, ?hym17⟩) hHeld ?restm17
        case him17 => simp only [List.getElem?_toArray, List.getElem?_cons_succ, List.getElem?_cons_zero]; rfl
        case hQm17 => exact fun _ _ _ h => h
        case hwm17 => rfl
        case hym17 => (intro w9 hSw; have k0 := (Ext.cell hSw (p := ⟨b, o, none⟩) hb).trans q0; have k1 := (Ext.cell hSw (p := ⟨b, o + 1, none⟩) hb).trans q1; go_simp; (try with_reducible rfl))
        case restm17 =>
        try simp only [Act.put, List.setIfInBounds_toArray, List.set_cons_zero, List.set_cons_succ]
        refine wpAnyH_take (i := 17) (oi := ?oim18) (v := ?vm18) ?him18 (by kernel_rfl) (by kernel_rfl) (by kernel_rfl) ?hQm18 (Or.inl ⟨?hwm18, ?hym18⟩) hHeld ?restm18
        case him18 => simp only [List.getElem?_toArray, List.getElem?_cons_succ, List.getElem?_cons_zero]; rfl
        case hQm18 => exact fun _ _ _ h => h
        case hwm18 => rfl
        case hym18 => (intro w9 hSw; have k0 := (Ext.cell hSw (p := ⟨b, o, none⟩) hb).trans q0; have k1 := (Ext.cell hSw (p := ⟨b, o + 1, none⟩) hb).trans q1; go_simp; (try with_reducible rfl))
        case restm18 =>
        try simp only [Act.put, List.setIfInBounds_toArray, List.set_cons_zero, List.set_cons_succ]
        refine wpAnyH_take (i := 18) (oi := ?oim19) (v := ?vm19) ?him19 (by kernel_rfl) (by kernel_rfl) (by kernel_rfl) ?hQm19 (Or.inl ⟨?hwm19, ?hym19⟩) hHeld ?restm19
        case him19 => simp only [List.getElem?_toArray, List.getElem?_cons_succ, List.getElem?_cons_zero]; rfl
        case hQm19 => exact fun _ _ _ h => h
        case hwm19 => rfl
        case hym19 => (intro w9 hSw; have k0 := (Ext.cell hSw (p := ⟨b, o, none⟩) hb).trans q0; have k1 := (Ext.cell hSw (p := ⟨b, o + 1, none⟩) hb).trans q1; go_simp; (try with_reducible rfl))
        case restm19 =>
        try simp only [Act.put, List.setIfInBounds_toArray, List.set_cons_zero, List.set_cons_succ]
        refine wpAnyH_take (i := 19) (oi := ?oim20) (v := ?vm20) ?him20 (by kernel_rfl) (by kernel_rfl) (by kernel_rfl) ?hQm20 (Or.inl ⟨?hwm20, ?hym20⟩) hHeld ?restm20
        case him20 => simp only [List.getElem?_toArray, List.getElem?_cons_succ, List.getElem?_cons_zero]; rfl
        case hQm20 => exact fun _ _ _ h => h
        case hwm20 => rfl
        case hym20 => (intro w9 hSw; have k0 := (Ext.cell hSw (p := ⟨b, o, none⟩) hb).trans q0; have k1 := (Ext.cell hSw (p := ⟨b, o + 1, none⟩) hb).trans q1; go_simp; (try with_reducible rfl))
        case restm20 =>
        try simp only [Act.put, List.setIfInBounds_toArray, List.set_cons_zero, List.set_cons_succ]
        refine wpAnyH_take (i := 20) (oi := ?oim21) (v := undef) ?him21 (by kernel_rfl) (by kernel_rfl) (by kernel_rfl) ?hQm21 (Or.inr ⟨?hwm21, rfl⟩) hHeld ?restm21
        case him21 => simp only [List.getElem?_toArray, List.getElem?_cons_succ, List.getElem?_cons_zero]; rfl
        case hQm21 => exact fun _ _ _ h => h
        case hwm21 => rfl
        case restm21 =>
        try simp only [Act.put, List.setIfInBounds_toArray, List.set_cons_zero, List.set_cons_succ]
        refine wpAnyH_take (i := 21) (oi := ?oim22) (v := undef) ?him22 (by kernel_rfl) (by kernel_rfl) (by kernel_rfl) ?hQm22 (Or.inr ⟨?hwm22, rfl⟩) hHeld ?restm22
        case him22 => simp only [List.getElem?_toArray, List.getElem?_cons_succ, List.getElem?_cons_zero]; rfl
        case hQm22 => exact fun _ _ _ h => h
        case hwm22 => rfl
        case restm22 =>
        try simp only [Act.put, List.setIfInBounds_toArray, List.set_cons_zero, List.set_cons_succ]
        refine wpAnyH_take (i := 22) (oi := ?oim23) (v := undef) ?him23 (by kernel_rfl) (by kernel_rfl) (by kernel_rfl) ?hQm23 (Or.inr ⟨?hwm23, rfl⟩) hHeld ?restm23
        case him23 => simp only [List.getElem?_toArray, List.getElem?_cons_succ, List.getElem?_cons_zero]; rfl
        case hQm23 => exact fun _ _ _ h => h
        case hwm23 => rfl
        case restm23 =>
        try simp only [Act.put, List.setIfInBounds_toArray, List.set_cons_zero, List.set_cons_succ]
        refine wpAnyH_take (i := 23) (oi := ?oim24) (v := undef) ?him24 (by kernel_rfl) (by kernel_rfl) (by kernel_rfl) ?hQm24 (Or.inr ⟨?hwm24, rfl⟩) hHeld ?restm24
        case him24 => simp only [List.getElem?_toArray, List.getElem?_cons_succ, List.getElem?_cons_zero]; rfl
        case hQm24 => exact fun _ _ _ h => h
        case hwm24 => rfl
        case restm24 =>
        try simp only [Act.put, List.setIfInBounds_toArray, List.set_cons_zero, List.set_cons_succ]
        refine wpAnyH_take (i := 24) (oi := ?oim25) (v := undef) ?him25 (by kernel_rfl) (by kernel_rfl) (by kernel_rfl) ?hQm25 (Or.inr ⟨?hwm25, rfl⟩) hHeld ?restm25
        case him25 => simp only [List.getElem?_toArray, List.getElem?_cons_succ, List.getElem?_cons_zero]; rfl
        case hQm25 => exact fun _ _ _ h => h
        case hwm25 => rfl
        case restm25 =>
        try simp only [Act.put, List.setIfInBounds_toArray, List.set_cons_zero, List.set_cons_succ]
        refine wpAnyH_take (i := 25) (oi := ?oim26) (v := undef) ?him26 (by kernel_rfl) (by kernel_rfl) (by kernel_rfl) ?hQm26 (Or.inr ⟨?hwm26, rfl⟩) hHeld ?restm26
        case him26 => simp only [List.getElem?_toArray, List.getElem?_cons_succ, List.getElem?_cons_zero]; rfl
        case hQm26 => exact fun _ _ _ h => h
        case hwm26 => rfl
        case restm26 =>
        try simp only [Act.put, List.setIfInBounds_toArray, List.set_cons_zero, List.set_cons_succ]
        refine wpAnyH_take (i := 26) (oi := ?oim27) (v := undef) ?him27 (by kernel_rfl) (by kernel_rfl) (by kernel_rfl) ?hQm27 (Or.inr ⟨?hwm27, rfl⟩) hHeld ?restm27
        case him27 => simp only [List.getElem?_toArray, List.getElem?_cons_succ, List.getElem?_cons_zero]; rfl
        case hQm27 => exact fun _ _ _ h => h
        case hwm27 => rfl
        case restm27 =>
        try simp only [Act.put, List.setIfInBounds_toArray, List.set_cons_zero, List.set_cons_succ]
        refine wpAnyH_take (i := 27) (oi := ?oim28) (v := undef) ?him28 (by kernel_rfl) (by kernel_rfl) (by kernel_rfl) ?hQm28 (Or.inr ⟨?hwm28, rfl⟩) hHeld ?restm28
        case him28 => simp only [List.getElem?_toArray, List.getElem?_cons_succ, List.getElem?_cons_zero]; rfl
        case hQm28 => exact fun _ _ _ h => h
        case hwm28 => rfl
        case restm28 =>
        try simp only [Act.put, List.setIfInBounds_toArray, List.set_cons_zero, List.set_cons_succ]
        refine wpAnyH_take (i := 28) (oi := ?oim29) (v := undef) ?him29 (by kernel_rfl) (by kernel_rfl) (by kernel_rfl) ?hQm29 (Or.inr ⟨?hwm29, rfl⟩) hHeld ?restm29
        case him29 => simp only [List.getElem?_toArray, List.getElem?_cons_succ, List.getElem?_cons_zero]; rfl
        case hQm29 => exact fun _ _ _ h => h
        case hwm29 => rfl
        case restm29 =>
        try simp only [Act.put, List.setIfInBounds_toArray, List.set_cons_zero, List.set_cons_succ]
        refine wpAnyH_take (i := 29) (oi := ?oim30) (v := undef) ?him30 (by kernel_rfl) (by kernel_rfl) (by kernel_rfl) ?hQm30 (Or.inr ⟨?hwm30, rfl⟩) hHeld ?restm30
        case him30 => simp only [List.getElem?_toArray, List.getElem?_cons_succ, List.getElem?_cons_zero]; rfl
        case hQm30 => exact fun _ _ _ h => h
        case hwm30 => rfl
        case restm30 =>
        try simp only [Act.put, List.setIfInBounds_toArray, List.set_cons_zero, List.set_cons_succ]
        refine wpAnyH_take (i := 30) (oi := ?oim31) (v := undef) ?him31 (by kernel_rfl) (by kernel_rfl) (by kernel_rfl) ?hQm31 (Or.inr ⟨?hwm31, rfl⟩) hHeld ?restm31
        case him31 => simp only [List.getElem?_toArray, List.getElem?_cons_succ, List.getElem?_cons_zero]; rfl
        case hQm31 => exact fun _ _ _ h => h
        case hwm31 => rfl
        case restm31 =>
        try simp only [Act.put, List.setIfInBounds_toArray, List.set_cons_zero, List.set_cons_succ]
        refine wpAnyH_take (i := 31) (oi := ?oim32) (v := undef) ?him32 (by kernel_rfl) (by kernel_rfl) (by kernel_rfl) ?hQm32 (Or.inr ⟨?hwm32, rfl⟩) hHeld ?restm32
        case him32 => simp only [List.getElem?_toArray, List.getElem?_cons_succ, List.getElem?_cons_zero]; rfl
        case hQm32 => exact fun _ _ _ h => h
        case hwm32 => rfl
        case restm32 =>
        try simp only [Act.put, List.setIfInBounds_toArray, List.set_cons_zero, List.set_cons_succ]
        refine wpAnyH_take (i := 32) (oi := ?oim33) (v := ?vm33) ?him33 (by kernel_rfl) (by kernel_rfl) (by kernel_rfl) ?hQm33 (Or.inl ⟨?hwm33, ?hym33⟩) hHeld ?restm33
        case him33 => simp only [List.getElem?_toArray, List.getElem?_cons_succ, List.getElem?_cons_zero]; rfl
        case hQm33 => exact fun _ _ _ h => h
        case hwm33 => rfl
        case hym33 => (intro w9 hSw; have k0 := (Ext.cell hSw (p := ⟨b, o, none⟩) hb).trans q0; have k1 := (Ext.cell hSw (p := ⟨b, o + 1, none⟩) hb).trans q1; go_simp; (try with_reducible rfl))
        case restm33 =>
        try simp only [Act.put, List.setIfInBounds_toArray, List.set_cons_zero, List.set_cons_succ]
        refine wpAnyH_take (i := 33) (oi := ?oim34) (v := ?vm34) ?him34 (by kernel_rfl) (by kernel_rfl) (by kernel_rfl) ?hQm34 (Or.inl ⟨?hwm34, ?hym34⟩) hHeld ?restm34
        case him34 => simp only [List.getElem?_toArray, List.getElem?_cons_succ, List.getElem?_cons_zero]; rfl
        case hQm34 => exact fun _ _ _ h => h
        case hwm34 => rfl
        case hym34 => (intro w9 hSw; have k0 := (Ext.cell hSw (p := ⟨b, o, none⟩) hb).trans q0; have k1 := (Ext.cell hSw (p := ⟨b, o + 1, none⟩) hb).trans q1; go_simp; (try with_reducible rfl))
        case restm34 =>
        try simp only [Act.put, List.setIfInBounds_toArray, List.set_cons_zero, List.set_cons_succ]
        refine wpAnyH_done (by kernel_rfl) ?_ _
        go_wp2_with fail
        go_roundw
        case rel => exact ⟨1, rfl, hlt, Lib.hid (by rw [htl]; exact hd2.out), hHeld⟩
        case measure => simp only [intOf]; omega
      | succ k =>
        have hp := take_last l k (by omega)
        have hp0 := (hL k (by omega)).1
        obtain ⟨p, hpe⟩ : ∃ p, (l[k]'(by omega)).1 = p := ⟨_, rfl⟩
        rw [hpe] at hp hp0
        rw [hp] at hd
        have e1 : IntKind.i64.wrap (k : Int) = (k : Int) := IntWalk.i64_in _ (by omega)
        have e3 : (k : Int) < (l.length : Int) := by omega
        have e4 : (0 : Int) ≤ (k : Int) + 1 := by omega
        have hd1 : (!(geS p n) && goodGo (some n) (l.drop (k + 1 + 1))) = R := by
         rw [← hd]
         show _ = (nameB n && (valueB v && (!(geS p n) && goodGo (some n) (l.drop (k + 1 + 1)))))
         rw [hn, hv, Bool.true_and, Bool.true_and]
        clear hd hn hv
        by_cases hge : geS p n = true
        ·rw [hge] at hd1
         have nl : Op.bytesLess p.toList n.toList = false := by
          rw [less_is, decide_eq_false]
          unfold geS at hge
          simp only [decide_eq_true_eq] at hge
          omega
         have HV : Hid (R = false) := Lib.hid (by rw [← hd1]; rfl)
         clear hd1 hge
         go_wp2_with fail
         refine wp_region_held_drew (S := Ext w) (by kernel_rfl) (xr.drew) (fun hHeld => ?_)
         refine wpAnyH_take (i := 0) (oi := ?oim35) (v := ?vm35) ?him35 (by kernel_rfl) (by kernel_rfl) (by kernel_rfl) ?hQm35 (Or.inl ⟨?hwm35, ?hym35⟩) hHeld ?restm35
         case him35 => simp only [List.getElem?_toArray, List.getElem?_cons_zero]; rfl
         case hQm35 => exact fun _ _ _ h => h
         case hwm35 => rfl
         case hym35 => (intro w9 hSw; have k0 := (Ext.cell hSw (p := ⟨b, o + (k + 1) * 2, none⟩) hb).trans q0; have k1 := (Ext.cell hSw (p := ⟨b, o + (k + 1) * 2 + 1, none⟩) hb).trans q1; have k2 := (Ext.cell hSw (p := ⟨b, o + k * 2, none⟩) hb).trans hp0; go_simp; (try with_reducible rfl))
         case restm35 =>
         try simp only [Act.put, List.setIfInBounds_toArray, List.set_cons_zero, List.set_cons_succ]
         refine wpAnyH_take (i := 1) (oi := ?oim36) (v := ?vm36) ?him36 (by kernel_rfl) (by kernel_rfl) (by kernel_rfl) ?hQm36 (Or.inl ⟨?hwm36, ?hym36⟩) hHeld ?restm36
         case him36 => simp only [List.getElem?_toArray, List.getElem?_cons_succ, List.getElem?_cons_zero]; rfl
         case hQm36 => exact fun _ _ _ h => h
         case hwm36 => rfl
         case hym36 => (intro w9 hSw; have k0 := (Ext.cell hSw (p := ⟨b, o + (k + 1) * 2, none⟩) hb).trans q0; have k1 := (Ext.cell hSw (p := ⟨b, o + (k + 1) * 2 + 1, none⟩) hb).trans q1; have k2 := (Ext.cell hSw (p := ⟨b, o + k * 2, none⟩) hb).trans hp0; go_simp; (try with_reducible rfl))
         case restm36 =>
         try simp only [Act.put, List.setIfInBounds_toArray, List.set_cons_zero, List.set_cons_succ]
         refine wpAnyH_take (i := 2) (oi := ?oim37) (v := ?vm37) ?him37 (by kernel_rfl) (by kernel_rfl) (by kernel_rfl) ?hQm37 (Or.inl ⟨?hwm37, ?hym37⟩) hHeld ?restm37
         case him37 => simp only [List.getElem?_toArray, List.getElem?_cons_succ, List.getElem?_cons_zero]; rfl
         case hQm37 => exact fun _ _ _ h => h
         case hwm37 => rfl
         case hym37 => (intro w9 hSw; have k0 := (Ext.cell hSw (p := ⟨b, o + (k + 1) * 2, none⟩) hb).trans q0; have k1 := (Ext.cell hSw (p := ⟨b, o + (k + 1) * 2 + 1, none⟩) hb).trans q1; have k2 := (Ext.cell hSw (p := ⟨b, o + k * 2, none⟩) hb).trans hp0; go_simp; (try with_reducible rfl))
         case restm37 =>
         try simp only [Act.put, List.setIfInBounds_toArray, List.set_cons_zero, List.set_cons_succ]
         refine wpAnyH_take (i := 3) (oi := ?oim38) (v := ?vm38) ?him38 (by kernel_rfl) (by kernel_rfl) (by kernel_rfl) ?hQm38 (Or.inl ⟨?hwm38, ?hym38⟩) hHeld ?restm38
         case him38 => simp only [List.getElem?_toArray, List.getElem?_cons_succ, List.getElem?_cons_zero]; rfl
         case hQm38 => exact fun _ _ _ h => h
         case hwm38 => rfl
         case hym38 => (intro w9 hSw; have k0 := (Ext.cell hSw (p := ⟨b, o + (k + 1) * 2, none⟩) hb).trans q0; have k1 := (Ext.cell hSw (p := ⟨b, o + (k + 1) * 2 + 1, none⟩) hb).trans q1; have k2 := (Ext.cell hSw (p := ⟨b, o + k * 2, none⟩) hb).trans hp0; go_simp; (try with_reducible rfl))
         case restm38 =>
         try simp only [Act.put, List.setIfInBounds_toArray, List.set_cons_zero, List.set_cons_succ]
         refine wpAnyH_take (i := 4) (oi := ?oim39) (v := ?vm39) ?him39 (by kernel_rfl) (by kernel_rfl) (by kernel_rfl) ?hQm39 (Or.inl ⟨?hwm39, ?hym39⟩) hHeld ?restm39
         case him39 => simp only [List.getElem?_toArray, List.getElem?_cons_succ, List.getElem?_cons_zero]; rfl
         case hQm39 => exact fun _ _ _ h => h
         case hwm39 => rfl
         case hym39 => (intro w9 hSw; have k0 := (Ext.cell hSw (p := ⟨b, o + (k + 1) * 2, none⟩) hb).trans q0; have k1 := (Ext.cell hSw (p := ⟨b, o + (k + 1) * 2 + 1, none⟩) hb).trans q1; have k2 := (Ext.cell hSw (p := ⟨b, o + k * 2, none⟩) hb).trans hp0; go_simp; (try with_reducible rfl))
         case restm39 =>
         try simp only [Act.put, List.setIfInBounds_toArray, List.set_cons_zero, List.set_cons_succ]
         refine wpAnyH_ready (rs := [5]) (by kernel_rfl) (by simp) (AllReadyH.cons (o := ?om40) ?im40 (fun K hK => ?_) AllReadyH.nil)
         case im40 => simp only [List.getElem?_toArray, List.getElem?_cons_succ, List.getElem?_cons_zero]; rfl
         rw [if_pos (by rfl)]
         go_simp
         go_at_call 65
         (with_reducible refine (N _).mono ?_)
         rintro e wz ⟨rfl, xz⟩
         refine hK.out _ _ (Ext.trans hHeld xz) (fun hHeld => ?_)
         clear hK K
         try simp only [List.setIfInBounds_toArray, List.set_cons_zero, List.set_cons_succ]
         refine wpAnyH_take (i := 6) (oi := ?oim41) (v := ?vm41) ?him41 (by kernel_rfl) (by kernel_rfl) (by kernel_rfl) ?hQm41 (Or.inl ⟨?hwm41, ?hym41⟩) hHeld ?restm41
         case him41 => simp only [List.getElem?_toArray, List.getElem?_cons_succ, List.getElem?_cons_zero]; rfl
         case hQm41 => exact fun _ _ _ h => h
         case hwm41 => rfl
         case hym41 => (intro w9 hSw; have k0 := (Ext.cell hSw (p := ⟨b, o + (k + 1) * 2, none⟩) hb).trans q0; have k1 := (Ext.cell hSw (p := ⟨b, o + (k + 1) * 2 + 1, none⟩) hb).trans q1; have k2 := (Ext.cell hSw (p := ⟨b, o + k * 2, none⟩) hb).trans hp0; go_simp; (try with_reducible rfl))
         case restm41 =>
         try simp only [Act.put, List.setIfInBounds_toArray, List.set_cons_zero, List.set_cons_succ]
         refine wpAnyH_take (i := 7) (oi := ?oim42) (v := ?vm42) ?him42 (by kernel_rfl) (by kernel_rfl) (by kernel_rfl) ?hQm42 (Or.inl ⟨?hwm42, ?hym42⟩) hHeld ?restm42
         case him42 => simp only [List.getElem?_toArray, List.getElem?_cons_succ, List.getElem?_cons_zero]; rfl
         case hQm42 => exact fun _ _ _ h => h
         case hwm42 => rfl
         case hym42 => (intro w9 hSw; have k0 := (Ext.cell hSw (p := ⟨b, o + (k + 1) * 2, none⟩) hb).trans q0; have k1 := (Ext.cell hSw (p := ⟨b, o + (k + 1) * 2 + 1, none⟩) hb).trans q1; have k2 := (Ext.cell hSw (p := ⟨b, o + k * 2, none⟩) hb).trans hp0; go_simp; (try with_reducible rfl))
         case restm42 =>
         try simp only [Act.put, List.setIfInBounds_toArray, List.set_cons_zero, List.set_cons_succ]
         refine wpAnyH_take (i := 8) (oi := ?oim43) (v := ?vm43) ?him43 (by kernel_rfl) (by kernel_rfl) (by kernel_rfl) ?hQm43 (Or.inl ⟨?hwm43, ?hym43⟩) hHeld ?restm43
         case him43 => simp only [List.getElem?_toArray, List.getElem?_cons_succ, List.getElem?_cons_zero]; rfl
         case hQm43 => exact fun _ _ _ h => h
         case hwm43 => rfl
         case hym43 => (intro w9 hSw; have k0 := (Ext.cell hSw (p := ⟨b, o + (k + 1) * 2, none⟩) hb).trans q0; have k1 := (Ext.cell hSw (p := ⟨b, o + (k + 1) * 2 + 1, none⟩) hb).trans q1; have k2 := (Ext.cell hSw (p := ⟨b, o + k * 2, none⟩) hb).trans hp0; go_simp; (try with_reducible rfl))
         case restm43 =>
         try simp only [Act.put, List.setIfInBounds_toArray, List.set_cons_zero, List.set_cons_succ]
         refine wpAnyH_take (i := 9) (oi := ?oim44) (v := ?vm44) ?him44 (by kernel_rfl) (by kernel_rfl) (by kernel_rfl) ?hQm44 (Or.inl ⟨?hwm44, ?hym44⟩) hHeld ?restm44
         case him44 => simp only [List.getElem?_toArray, List.getElem?_cons_succ, List.getElem?_cons_zero]; rfl
         case hQm44 => exact fun _ _ _ h => h
         case hwm44 => rfl
         case hym44 => (intro w9 hSw; have k0 := (Ext.cell hSw (p := ⟨b, o + (k + 1) * 2, none⟩) hb).trans q0; have k1 := (Ext.cell hSw (p := ⟨b, o + (k + 1) * 2 + 1, none⟩) hb).trans q1; have k2 := (Ext.cell hSw (p := ⟨b, o + k * 2, none⟩) hb).trans hp0; go_simp; (try with_reducible rfl))
         case restm44 =>
         try simp only [Act.put, List.setIfInBounds_toArray, List.set_cons_zero, List.set_cons_succ]
         refine wpAnyH_take (i := 10) (oi := ?oim45) (v := ?vm45) ?him45 (by kernel_rfl) (by kernel_rfl) (by kernel_rfl) ?hQm45 (Or.inl ⟨?hwm45, ?hym45⟩) hHeld ?restm45
         case him45 => simp only [List.getElem?_toArray, List.getElem?_cons_succ, List.getElem?_cons_zero]; rfl
         case hQm45 => exact fun _ _ _ h => h
         case hwm45 => rfl
         case hym45 => (intro w9 hSw; have k0 := (Ext.cell hSw (p := ⟨b, o + (k + 1) * 2, none⟩) hb).trans q0; have k1 := (Ext.cell hSw (p := ⟨b, o + (k + 1) * 2 + 1, none⟩) hb).trans q1; have k2 := (Ext.cell hSw (p := ⟨b, o + k * 2, none⟩) hb).trans hp0; go_simp; (try with_reducible rfl))
         case restm45 =>
         try simp only [Act.put, List.setIfInBounds_toArray, List.set_cons_zero, List.set_cons_succ]
         refine wpAnyH_take (i := 11) (oi := ?oim46) (v := ?vm46) ?him46 (by kernel_rfl) (by kernel_rfl) (by kernel_rfl) ?hQm46 (Or.inl ⟨?hwm46, ?hym46⟩) hHeld ?restm46
         case him46 => simp only [List.getElem?_toArray, List.getElem?_cons_succ, List.getElem?_cons_zero]; rfl
         case hQm46 => exact fun _ _ _ h => h
         case hwm46 => rfl
         case hym46 => (intro w9 hSw; have k0 := (Ext.cell hSw (p := ⟨b, o + (k + 1) * 2, none⟩) hb).trans q0; have k1 := (Ext.cell hSw (p := ⟨b, o + (k + 1) * 2 + 1, none⟩) hb).trans q1; have k2 := (Ext.cell hSw (p := ⟨b, o + k * 2, none⟩) hb).trans hp0; go_simp; (try with_reducible rfl))
         case restm46 =>
         try simp only [Act.put, List.setIfInBounds_toArray, List.set_cons_zero, List.set_cons_succ]
         refine wpAnyH_take (i := 12) (oi := ?oim47) (v := ?vm47) ?him47 (by kernel_rfl) (by kernel_rfl) (by kernel_rfl) ?hQm47 (Or.inl ⟨?hwm47, ?hym47⟩) hHeld ?restm47
         case him47 => simp only [List.getElem?_toArray, List.getElem?_cons_succ, List.getElem?_cons_zero]; rfl
         case hQm47 => exact fun _ _ _ h => h
         case hwm47 => rfl
         case hym47 => (intro w9 hSw; have k0 := (Ext.cell hSw (p := ⟨b, o + (k + 1) * 2, none⟩) hb).trans q0; have k1 := (Ext.cell hSw (p := ⟨b, o + (k + 1) * 2 + 1, none⟩) hb).trans q1; have k2 := (Ext.cell hSw (p := ⟨b, o + k * 2, none⟩) hb).trans hp0; go_simp; (try with_reducible rfl))
         case restm47 =>
         try simp only [Act.put, List.setIfInBounds_toArray, List.set_cons_zero, List.set_cons_succ]
         refine wpAnyH_ready (rs := [13]) (by kernel_rfl) (by simp) (AllReadyH.cons (o := ?om48) ?im48 (fun K hK => ?_) AllReadyH.nil)
         case im48 => simp only [List.getElem?_toArray, List.getElem?_cons_succ, List.getElem?_cons_zero]; rfl
         rw [if_pos (by rfl)]
         go_simp
         go_at_call 67
         (with_reducible refine (V _).mono ?_)
         rintro e wz ⟨rfl, xz⟩
         refine hK.out _ _ (Ext.trans hHeld xz) (fun hHeld => ?_)
         clear hK K
         try simp only [List.setIfInBounds_toArray, List.set_cons_zero, List.set_cons_succ]
         refine wpAnyH_take (i := 14) (oi := ?oim49) (v := ?vm49) ?him49 (by kernel_rfl) (by kernel_rfl) (by kernel_rfl) ?hQm49 (Or.inl ⟨?hwm49, ?hym49⟩) hHeld ?restm49
         case him49 => simp only [List.getElem?_toArray, List.getElem?_cons_succ, List.getElem?_cons_zero]; rfl
         case hQm49 => exact fun _ _ _ h => h
         case hwm49 => rfl
         case hym49 => (intro w9 hSw; have k0 := (Ext.cell hSw (p := ⟨b, o + (k + 1) * 2, none⟩) hb).trans q0; have k1 := (Ext.cell hSw (p := ⟨b, o + (k + 1) * 2 + 1, none⟩) hb).trans q1; have k2 := (Ext.cell hSw (p := ⟨b, o + k * 2, none⟩) hb).trans hp0; go_simp; (try with_reducible rfl))
         case restm49 =>
         try simp only [Act.put, List.setIfInBounds_toArray, List.set_cons_zero, List.set_cons_succ]
         refine wpAnyH_take (i := 15) (oi := ?oim50) (v := ?vm50) ?him50 (by kernel_rfl) (by kernel_rfl) (by kernel_rfl) ?hQm50 (Or.inl ⟨?hwm50, ?hym50⟩) hHeld ?restm50
         case him50 => simp only [List.getElem?_toArray, List.getElem?_cons_succ, List.getElem?_cons_zero]; rfl
         case hQm50 => exact fun _ _ _ h => h
         case hwm50 => rfl
         case hym50 => (intro w9 hSw; have k0 := (Ext.cell hSw (p := ⟨b, o + (k + 1) * 2, none⟩) hb).trans q0; have k1 := (Ext.cell hSw (p := ⟨b, o + (k + 1) * 2 + 1, none⟩) hb).trans q1; have k2 := (Ext.cell hSw (p := ⟨b, o + k * 2, none⟩) hb).trans hp0; go_simp; (try with_reducible rfl))
         case restm50 =>
         try simp only [Act.put, List.setIfInBounds_toArray, List.set_cons_zero, List.set_cons_succ]
         refine wpAnyH_take (i := 16) (oi := ?oim51) (v := ?vm51) ?him51 (by kernel_rfl) (by kernel_rfl) (by kernel_rfl) ?hQm51 (Or.inl ⟨?hwm51, ?hym51⟩) hHeld ?restm51
         case him51 => simp only [List.getElem?_toArray, List.getElem?_cons_succ, List.getElem?_cons_zero]; rfl
         case hQm51 => exact fun _ _ _ h => h
         case hwm51 => rfl
         case hym51 => (intro w9 hSw; have k0 := (Ext.cell hSw (p := ⟨b, o + (k + 1) * 2, none⟩) hb).trans q0; have k1 := (Ext.cell hSw (p := ⟨b, o + (k + 1) * 2 + 1, none⟩) hb).trans q1; have k2 := (Ext.cell hSw (p := ⟨b, o + k * 2, none⟩) hb).trans hp0; go_simp; (try with_reducible rfl))
         case restm51 =>
         try simp only [Act.put, List.setIfInBounds_toArray, List.set_cons_zero, List.set_cons_succ]
         refine wpAnyH_take (i := 17) (oi := ?oim52) (v := ?vm52) ?him52 (by kernel_rfl) (by kernel_rfl) (by kernel_rfl) ?hQm52 (Or.inl ⟨?hwm52, ?hym52⟩) hHeld ?restm52
         case him52 => simp only [List.getElem?_toArray, List.getElem?_cons_succ, List.getElem?_cons_zero]; rfl
         case hQm52 => exact fun _ _ _ h => h
         case hwm52 => rfl
         case hym52 => (intro w9 hSw; have k0 := (Ext.cell hSw (p := ⟨b, o + (k + 1) * 2, none⟩) hb).trans q0; have k1 := (Ext.cell hSw (p := ⟨b, o + (k + 1) * 2 + 1, none⟩) hb).trans q1; have k2 := (Ext.cell hSw (p := ⟨b, o + k * 2, none⟩) hb).trans hp0; go_simp; (try with_reducible rfl))
         case restm52 =>
         try simp only [Act.put, List.setIfInBounds_toArray, List.set_cons_zero, List.set_cons_succ]
         refine wpAnyH_take (i := 18) (oi := ?oim53) (v := ?vm53) ?him53 (by kernel_rfl) (by kernel_rfl) (by kernel_rfl) ?hQm53 (Or.inl ⟨?hwm53, ?hym53⟩) hHeld ?restm53
         case him53 => simp only [List.getElem?_toArray, List.getElem?_cons_succ, List.getElem?_cons_zero]; rfl
         case hQm53 => exact fun _ _ _ h => h
         case hwm53 => rfl
         case hym53 => (intro w9 hSw; have k0 := (Ext.cell hSw (p := ⟨b, o + (k + 1) * 2, none⟩) hb).trans q0; have k1 := (Ext.cell hSw (p := ⟨b, o + (k + 1) * 2 + 1, none⟩) hb).trans q1; have k2 := (Ext.cell hSw (p := ⟨b, o + k * 2, none⟩) hb).trans hp0; go_simp; (try with_reducible rfl))
         case restm53 =>
         try simp only [Act.put, List.setIfInBounds_toArray, List.set_cons_zero, List.set_cons_succ]
         refine wpAnyH_take (i := 19) (oi := ?oim54) (v := ?vm54) ?him54 (by kernel_rfl) (by kernel_rfl) (by kernel_rfl) ?hQm54 (Or.inl ⟨?hwm54, ?hym54⟩) hHeld ?restm54
         case him54 => simp only [List.getElem?_toArray, List.getElem?_cons_succ, List.getElem?_cons_zero]; rfl
         case hQm54 => exact fun _ _ _ h => h
         case hwm54 => rfl
         case hym54 => (intro w9 hSw; have k0 := (Ext.cell hSw (p := ⟨b, o + (k + 1) * 2, none⟩) hb).trans q0; have k1 := (Ext.cell hSw (p := ⟨b, o + (k + 1) * 2 + 1, none⟩) hb).trans q1; have k2 := (Ext.cell hSw (p := ⟨b, o + k * 2, none⟩) hb).trans hp0; go_simp; (try with_reducible rfl))
         case restm54 =>
         try simp only [Act.put, List.setIfInBounds_toArray, List.set_cons_zero, List.set_cons_succ]
         refine wpAnyH_take (i := 20) (oi := ?oim55) (v := ?vm55) ?him55 (by kernel_rfl) (by kernel_rfl) (by kernel_rfl) ?hQm55 (Or.inl ⟨?hwm55, ?hym55⟩) hHeld ?restm55
         case him55 => simp only [List.getElem?_toArray, List.getElem?_cons_succ, List.getElem?_cons_zero]; rfl
         case hQm55 => exact fun _ _ _ h => h
         case hwm55 => rfl
         case hym55 => (intro w9 hSw; have k0 := (Ext.cell hSw (p := ⟨b, o + (k + 1) * 2, none⟩) hb).trans q0; have k1 := (Ext.cell hSw (p := ⟨b, o + (k + 1) * 2 + 1, none⟩) hb).trans q1; have k2 := (Ext.cell hSw (p := ⟨b, o + k * 2, none⟩) hb).trans hp0; go_simp; (try with_reducible rfl))
         case restm55 =>
         try simp only [Act.put, List.setIfInBounds_toArray, List.set_cons_zero, List.set_cons_succ]
         refine wpAnyH_take (i := 21) (oi := ?oim56) (v := ?vm56) ?him56 (by kernel_rfl) (by kernel_rfl) (by kernel_rfl) ?hQm56 (Or.inl ⟨?hwm56, ?hym56⟩) hHeld ?restm56
         case him56 => simp only [List.getElem?_toArray, List.getElem?_cons_succ, List.getElem?_cons_zero]; rfl
         case hQm56 => exact fun _ _ _ h => h
         case hwm56 => rfl
         case hym56 => (intro w9 hSw; have k0 := (Ext.cell hSw (p := ⟨b, o + (k + 1) * 2, none⟩) hb).trans q0; have k1 := (Ext.cell hSw (p := ⟨b, o + (k + 1) * 2 + 1, none⟩) hb).trans q1; have k2 := (Ext.cell hSw (p := ⟨b, o + k * 2, none⟩) hb).trans hp0; go_simp; (try with_reducible rfl))
         case restm56 =>
         try simp only [Act.put, List.setIfInBounds_toArray, List.set_cons_zero, List.set_cons_succ]
         refine wpAnyH_take (i := 22) (oi := ?oim57) (v := ?vm57) ?him57 (by kernel_rfl) (by kernel_rfl) (by kernel_rfl) ?hQm57 (Or.inl ⟨?hwm57, ?hym57⟩) hHeld ?restm57
         case him57 => simp only [List.getElem?_toArray, List.getElem?_cons_succ, List.getElem?_cons_zero]; rfl
         case hQm57 => exact fun _ _ _ h => h
         case hwm57 => rfl
         case hym57 => (intro w9 hSw; have k0 := (Ext.cell hSw (p := ⟨b, o + (k + 1) * 2, none⟩) hb).trans q0; have k1 := (Ext.cell hSw (p := ⟨b, o + (k + 1) * 2 + 1, none⟩) hb).trans q1; have k2 := (Ext.cell hSw (p := ⟨b, o + k * 2, none⟩) hb).trans hp0; go_simp; (try with_reducible rfl))
         case restm57 =>
         try simp only [Act.put, List.setIfInBounds_toArray, List.set_cons_zero, List.set_cons_succ]
         refine wpAnyH_take (i := 23) (oi := ?oim58) (v := ?vm58) ?him58 (by kernel_rfl) (by kernel_rfl) (by kernel_rfl) ?hQm58 (Or.inl ⟨?hwm58, ?hym58⟩) hHeld ?restm58
         case him58 => simp only [List.getElem?_toArray, List.getElem?_cons_succ, List.getElem?_cons_zero]; rfl
         case hQm58 => exact fun _ _ _ h => h
         case hwm58 => rfl
         case hym58 => (intro w9 hSw; have k0 := (Ext.cell hSw (p := ⟨b, o + (k + 1) * 2, none⟩) hb).trans q0; have k1 := (Ext.cell hSw (p := ⟨b, o + (k + 1) * 2 + 1, none⟩) hb).trans q1; have k2 := (Ext.cell hSw (p := ⟨b, o + k * 2, none⟩) hb).trans hp0; go_simp; (try with_reducible rfl))
         case restm58 =>
         try simp only [Act.put, List.setIfInBounds_toArray, List.set_cons_zero, List.set_cons_succ]
         refine wpAnyH_take (i := 24) (oi := ?oim59) (v := ?vm59) ?him59 (by kernel_rfl) (by kernel_rfl) (by kernel_rfl) ?hQm59 (Or.inl ⟨?hwm59, ?hym59⟩) hHeld ?restm59
         case him59 => simp only [List.getElem?_toArray, List.getElem?_cons_succ, List.getElem?_cons_zero]; rfl
         case hQm59 => exact fun _ _ _ h => h
         case hwm59 => rfl
         case hym59 => (intro w9 hSw; have k0 := (Ext.cell hSw (p := ⟨b, o + (k + 1) * 2, none⟩) hb).trans q0; have k1 := (Ext.cell hSw (p := ⟨b, o + (k + 1) * 2 + 1, none⟩) hb).trans q1; have k2 := (Ext.cell hSw (p := ⟨b, o + k * 2, none⟩) hb).trans hp0; go_simp; (try with_reducible rfl))
         case restm59 =>
         try simp only [Act.put, List.setIfInBounds_toArray, List.set_cons_zero, List.set_cons_succ]
         refine wpAnyH_take (i := 25) (oi := ?oim60) (v := ?vm60) ?him60 (by kernel_rfl) (by kernel_rfl) (by kernel_rfl) ?hQm60 (Or.inl ⟨?hwm60, ?hym60⟩) hHeld ?restm60
         case him60 => simp only [List.getElem?_toArray, List.getElem?_cons_succ, List.getElem?_cons_zero]; rfl
         case hQm60 => exact fun _ _ _ h => h
         case hwm60 => rfl
         case hym60 => (intro w9 hSw; have k0 := (Ext.cell hSw (p := ⟨b, o + (k + 1) * 2, none⟩) hb).trans q0; have k1 := (Ext.cell hSw (p := ⟨b, o + (k + 1) * 2 + 1, none⟩) hb).trans q1; have k2 := (Ext.cell hSw (p := ⟨b, o + k * 2, none⟩) hb).trans hp0; go_simp; (try with_reducible rfl))
         case restm60 =>
         try simp only [Act.put, List.setIfInBounds_toArray, List.set_cons_zero, List.set_cons_succ]
         refine wpAnyH_take (i := 26) (oi := ?oim61) (v := ?vm61) ?him61 (by kernel_rfl) (by kernel_rfl) (by kernel_rfl) ?hQm61 (Or.inl ⟨?hwm61, ?hym61⟩) hHeld ?restm61
         case him61 => simp only [List.getElem?_toArray, List.getElem?_cons_succ, List.getElem?_cons_zero]; rfl
         case hQm61 => exact fun _ _ _ h => h
         case hwm61 => rfl
         case hym61 => (intro w9 hSw; have k0 := (Ext.cell hSw (p := ⟨b, o + (k + 1) * 2, none⟩) hb).trans q0; have k1 := (Ext.cell hSw (p := ⟨b, o + (k + 1) * 2 + 1, none⟩) hb).trans q1; have k2 := (Ext.cell hSw (p := ⟨b, o + k * 2, none⟩) hb).trans hp0; go_simp; (try with_reducible rfl))
         case restm61 =>
         try simp only [Act.put, List.setIfInBounds_toArray, List.set_cons_zero, List.set_cons_succ]
         refine wpAnyH_take (i := 27) (oi := ?oim62) (v := ?vm62) ?him62 (by kernel_rfl) (by kernel_rfl) (by kernel_rfl) ?hQm62 (Or.inl ⟨?hwm62, ?hym62⟩) hHeld ?restm62
         case him62 => simp only [List.getElem?_toArray, List.getElem?_cons_succ, List.getElem?_cons_zero]; rfl
         case hQm62 => exact fun _ _ _ h => h
         case hwm62 => rfl
         case hym62 => (intro w9 hSw; have k0 := (Ext.cell hSw (p := ⟨b, o + (k + 1) * 2, none⟩) hb).trans q0; have k1 := (Ext.cell hSw (p := ⟨b, o + (k + 1) * 2 + 1, none⟩) hb).trans q1; have k2 := (Ext.cell hSw (p := ⟨b, o + k * 2, none⟩) hb).trans hp0; go_simp; (try with_reducible rfl))
         case restm62 =>
         try simp only [Act.put, List.setIfInBounds_toArray, List.set_cons_zero, List.set_cons_succ]
         refine wpAnyH_take (i := 28) (oi := ?oim63) (v := ?vm63) ?him63 (by kernel_rfl) (by kernel_rfl) (by kernel_rfl) ?hQm63 (Or.inl ⟨?hwm63, ?hym63⟩) hHeld ?restm63
         case him63 => simp only [List.getElem?_toArray, List.getElem?_cons_succ, List.getElem?_cons_zero]; rfl
         case hQm63 => exact fun _ _ _ h => h
         case hwm63 => rfl
         case hym63 => (intro w9 hSw; have k0 := (Ext.cell hSw (p := ⟨b, o + (k + 1) * 2, none⟩) hb).trans q0; have k1 := (Ext.cell hSw (p := ⟨b, o + (k + 1) * 2 + 1, none⟩) hb).trans q1; have k2 := (Ext.cell hSw (p := ⟨b, o + k * 2, none⟩) hb).trans hp0; go_simp; (try with_reducible rfl))
         case restm63 =>
         try simp only [Act.put, List.setIfInBounds_toArray, List.set_cons_zero, List.set_cons_succ]
         refine wpAnyH_take (i := 29) (oi := ?oim64) (v := ?vm64) ?him64 (by kernel_rfl) (by kernel_rfl) (by kernel_rfl) ?hQm64 (Or.inl ⟨?hwm64, ?hym64⟩) hHeld ?restm64
         case him64 => simp only [List.getElem?_toArray, List.getElem?_cons_succ, List.getElem?_cons_zero]; rfl
         case hQm64 => exact fun _ _ _ h => h
         case hwm64 => rfl
         case hym64 => (intro w9 hSw; have k0 := (Ext.cell hSw (p := ⟨b, o + (k + 1) * 2, none⟩) hb).trans q0; have k1 := (Ext.cell hSw (p := ⟨b, o + (k + 1) * 2 + 1, none⟩) hb).trans q1; have k2 := (Ext.cell hSw (p := ⟨b, o + k * 2, none⟩) hb).trans hp0; go_simp; (try with_reducible rfl))
         case restm64 =>
         try simp only [Act.put, List.setIfInBounds_toArray, List.set_cons_zero, List.set_cons_succ]
         refine wpAnyH_take (i := 30) (oi := ?oim65) (v := ?vm65) ?him65 (by kernel_rfl) (by kernel_rfl) (by kernel_rfl) ?hQm65 (Or.inl ⟨?hwm65, ?hym65⟩) hHeld ?restm65
         case him65 => simp only [List.getElem?_toArray, List.getElem?_cons_succ, List.getElem?_cons_zero]; rfl
         case hQm65 => exact fun _ _ _ h => h
         case hwm65 => rfl
         case hym65 => (intro w9 hSw; have k0 := (Ext.cell hSw (p := ⟨b, o + (k + 1) * 2, none⟩) hb).trans q0; have k1 := (Ext.cell hSw (p := ⟨b, o + (k + 1) * 2 + 1, none⟩) hb).trans q1; have k2 := (Ext.cell hSw (p := ⟨b, o + k * 2, none⟩) hb).trans hp0; go_simp; (try with_reducible rfl))
         case restm65 =>
         try simp only [Act.put, List.setIfInBounds_toArray, List.set_cons_zero, List.set_cons_succ]
         refine wpAnyH_take (i := 31) (oi := ?oim66) (v := ?vm66) ?him66 (by kernel_rfl) (by kernel_rfl) (by kernel_rfl) ?hQm66 (Or.inl ⟨?hwm66, ?hym66⟩) hHeld ?restm66
         case him66 => simp only [List.getElem?_toArray, List.getElem?_cons_succ, List.getElem?_cons_zero]; rfl
         case hQm66 => exact fun _ _ _ h => h
         case hwm66 => rfl
         case hym66 => (intro w9 hSw; have k0 := (Ext.cell hSw (p := ⟨b, o + (k + 1) * 2, none⟩) hb).trans q0; have k1 := (Ext.cell hSw (p := ⟨b, o + (k + 1) * 2 + 1, none⟩) hb).trans q1; have k2 := (Ext.cell hSw (p := ⟨b, o + k * 2, none⟩) hb).trans hp0; go_simp; (try with_reducible rfl))
         case restm66 =>
         try simp only [Act.put, List.setIfInBounds_toArray, List.set_cons_zero, List.set_cons_succ]
         refine wpAnyH_take (i := 32) (oi := ?oim67) (v := ?vm67) ?him67 (by kernel_rfl) (by kernel_rfl) (by kernel_rfl) ?hQm67 (Or.inl ⟨?hwm67, ?hym67⟩) hHeld ?restm67
         case him67 => simp only [List.getElem?_toArray, List.getElem?_cons_succ, List.getElem?_cons_zero]; rfl
         case hQm67 => exact fun _ _ _ h => h
         case hwm67 => rfl
         case hym67 => (intro w9 hSw; have k0 := (Ext.cell hSw (p := ⟨b, o + (k + 1) * 2, none⟩) hb).trans q0; have k1 := (Ext.cell hSw (p := ⟨b, o + (k + 1) * 2 + 1, none⟩) hb).trans q1; have k2 := (Ext.cell hSw (p := ⟨b, o + k * 2, none⟩) hb).trans hp0; go_simp; (try with_reducible rfl))
         case restm67 =>
         try simp only [Act.put, List.setIfInBounds_toArray, List.set_cons_zero, List.set_cons_succ]
         refine wpAnyH_take (i := 33) (oi := ?oim68) (v := ?vm68) ?him68 (by kernel_rfl) (by kernel_rfl) (by kernel_rfl) ?hQm68 (Or.inl ⟨?hwm68, ?hym68⟩) hHeld ?restm68
         case him68 => simp only [List.getElem?_toArray, List.getElem?_cons_succ, List.getElem?_cons_zero]; rfl
         case hQm68 => exact fun _ _ _ h => h
         case hwm68 => rfl
         case hym68 => (intro w9 hSw; have k0 := (Ext.cell hSw (p := ⟨b, o + (k + 1) * 2, none⟩) hb).trans q0; have k1 := (Ext.cell hSw (p := ⟨b, o + (k + 1) * 2 + 1, none⟩) hb).trans q1; have k2 := (Ext.cell hSw (p := ⟨b, o + k * 2, none⟩) hb).trans hp0; go_simp; (try with_reducible rfl))
         case restm68 =>
         try simp only [Act.put, List.setIfInBounds_toArray, List.set_cons_zero, List.set_cons_succ]
         refine wpAnyH_done (by kernel_rfl) ?_ _
         go_wp2_with fail
         go_ret
         exact ⟨retB HV.out.symm, hHeld⟩
        ·rw [show geS p n = false from by simpa using hge] at hd1
         have nl : Op.bytesLess p.toList n.toList = true := by
          rw [less_is, decide_eq_true]
          unfold geS at hge
          simp only [decide_eq_true_eq] at hge
          omega
         replace hd1 := Lib.hid hd1
         clear hge
         go_wp2_with fail
         refine wp_region_held_drew (S := Ext w) (by kernel_rfl) (xr.drew) (fun hHeld => ?_)
         refine wpAnyH_take (i := 0) (oi := ?oim69) (v := ?vm69) ?him69 (by kernel_rfl) (by kernel_rfl) (by kernel_rfl) ?hQm69 (Or.inl ⟨?hwm69, ?hym69⟩) hHeld ?restm69
         case him69 => simp only [List.getElem?_toArray, List.getElem?_cons_zero]; rfl
         case hQm69 => exact fun _ _ _ h => h
         case hwm69 => rfl
         case hym69 => (intro w9 hSw; have k0 := (Ext.cell hSw (p := ⟨b, o + (k + 1) * 2, none⟩) hb).trans q0; have k1 := (Ext.cell hSw (p := ⟨b, o + (k + 1) * 2 + 1, none⟩) hb).trans q1; have k2 := (Ext.cell hSw (p := ⟨b, o + k * 2, none⟩) hb).trans hp0; go_simp; (try with_reducible rfl))
         case restm69 =>
         try simp only [Act.put, List.setIfInBounds_toArray, List.set_cons_zero, List.set_cons_succ]
         refine wpAnyH_take (i := 1) (oi := ?oim70) (v := ?vm70) ?him70 (by kernel_rfl) (by kernel_rfl) (by kernel_rfl) ?hQm70 (Or.inl ⟨?hwm70, ?hym70⟩) hHeld ?restm70
         case him70 => simp only [List.getElem?_toArray, List.getElem?_cons_succ, List.getElem?_cons_zero]; rfl
         case hQm70 => exact fun _ _ _ h => h
         case hwm70 => rfl
         case hym70 => (intro w9 hSw; have k0 := (Ext.cell hSw (p := ⟨b, o + (k + 1) * 2, none⟩) hb).trans q0; have k1 := (Ext.cell hSw (p := ⟨b, o + (k + 1) * 2 + 1, none⟩) hb).trans q1; have k2 := (Ext.cell hSw (p := ⟨b, o + k * 2, none⟩) hb).trans hp0; go_simp; (try with_reducible rfl))
         case restm70 =>
         try simp only [Act.put, List.setIfInBounds_toArray, List.set_cons_zero, List.set_cons_succ]
         refine wpAnyH_take (i := 2) (oi := ?oim71) (v := ?vm71) ?him71 (by kernel_rfl) (by kernel_rfl) (by kernel_rfl) ?hQm71 (Or.inl ⟨?hwm71, ?hym71⟩) hHeld ?restm71
         case him71 => simp only [List.getElem?_toArray, List.getElem?_cons_succ, List.getElem?_cons_zero]; rfl
         case hQm71 => exact fun _ _ _ h => h
         case hwm71 => rfl
         case hym71 => (intro w9 hSw; have k0 := (Ext.cell hSw (p := ⟨b, o + (k + 1) * 2, none⟩) hb).trans q0; have k1 := (Ext.cell hSw (p := ⟨b, o + (k + 1) * 2 + 1, none⟩) hb).trans q1; have k2 := (Ext.cell hSw (p := ⟨b, o + k * 2, none⟩) hb).trans hp0; go_simp; (try with_reducible rfl))
         case restm71 =>
         try simp only [Act.put, List.setIfInBounds_toArray, List.set_cons_zero, List.set_cons_succ]
         refine wpAnyH_take (i := 3) (oi := ?oim72) (v := ?vm72) ?him72 (by kernel_rfl) (by kernel_rfl) (by kernel_rfl) ?hQm72 (Or.inl ⟨?hwm72, ?hym72⟩) hHeld ?restm72
         case him72 => simp only [List.getElem?_toArray, List.getElem?_cons_succ, List.getElem?_cons_zero]; rfl
         case hQm72 => exact fun _ _ _ h => h
         case hwm72 => rfl
         case hym72 => (intro w9 hSw; have k0 := (Ext.cell hSw (p := ⟨b, o + (k + 1) * 2, none⟩) hb).trans q0; have k1 := (Ext.cell hSw (p := ⟨b, o + (k + 1) * 2 + 1, none⟩) hb).trans q1; have k2 := (Ext.cell hSw (p := ⟨b, o + k * 2, none⟩) hb).trans hp0; go_simp; (try with_reducible rfl))
         case restm72 =>
         try simp only [Act.put, List.setIfInBounds_toArray, List.set_cons_zero, List.set_cons_succ]
         refine wpAnyH_take (i := 4) (oi := ?oim73) (v := ?vm73) ?him73 (by kernel_rfl) (by kernel_rfl) (by kernel_rfl) ?hQm73 (Or.inl ⟨?hwm73, ?hym73⟩) hHeld ?restm73
         case him73 => simp only [List.getElem?_toArray, List.getElem?_cons_succ, List.getElem?_cons_zero]; rfl
         case hQm73 => exact fun _ _ _ h => h
         case hwm73 => rfl
         case hym73 => (intro w9 hSw; have k0 := (Ext.cell hSw (p := ⟨b, o + (k + 1) * 2, none⟩) hb).trans q0; have k1 := (Ext.cell hSw (p := ⟨b, o + (k + 1) * 2 + 1, none⟩) hb).trans q1; have k2 := (Ext.cell hSw (p := ⟨b, o + k * 2, none⟩) hb).trans hp0; go_simp; (try with_reducible rfl))
         case restm73 =>
         try simp only [Act.put, List.setIfInBounds_toArray, List.set_cons_zero, List.set_cons_succ]
         refine wpAnyH_ready (rs := [5]) (by kernel_rfl) (by simp) (AllReadyH.cons (o := ?om74) ?im74 (fun K hK => ?_) AllReadyH.nil)
         case im74 => simp only [List.getElem?_toArray, List.getElem?_cons_succ, List.getElem?_cons_zero]; rfl
         rw [if_pos (by rfl)]
         go_simp
         go_at_call 65
         (with_reducible refine (N _).mono ?_)
         rintro e wz ⟨rfl, xz⟩
         refine hK.out _ _ (Ext.trans hHeld xz) (fun hHeld => ?_)
         clear hK K
         try simp only [List.setIfInBounds_toArray, List.set_cons_zero, List.set_cons_succ]
         refine wpAnyH_take (i := 6) (oi := ?oim75) (v := ?vm75) ?him75 (by kernel_rfl) (by kernel_rfl) (by kernel_rfl) ?hQm75 (Or.inl ⟨?hwm75, ?hym75⟩) hHeld ?restm75
         case him75 => simp only [List.getElem?_toArray, List.getElem?_cons_succ, List.getElem?_cons_zero]; rfl
         case hQm75 => exact fun _ _ _ h => h
         case hwm75 => rfl
         case hym75 => (intro w9 hSw; have k0 := (Ext.cell hSw (p := ⟨b, o + (k + 1) * 2, none⟩) hb).trans q0; have k1 := (Ext.cell hSw (p := ⟨b, o + (k + 1) * 2 + 1, none⟩) hb).trans q1; have k2 := (Ext.cell hSw (p := ⟨b, o + k * 2, none⟩) hb).trans hp0; go_simp; (try with_reducible rfl))
         case restm75 =>
         try simp only [Act.put, List.setIfInBounds_toArray, List.set_cons_zero, List.set_cons_succ]
         refine wpAnyH_take (i := 7) (oi := ?oim76) (v := ?vm76) ?him76 (by kernel_rfl) (by kernel_rfl) (by kernel_rfl) ?hQm76 (Or.inl ⟨?hwm76, ?hym76⟩) hHeld ?restm76
         case him76 => simp only [List.getElem?_toArray, List.getElem?_cons_succ, List.getElem?_cons_zero]; rfl
         case hQm76 => exact fun _ _ _ h => h
         case hwm76 => rfl
         case hym76 => (intro w9 hSw; have k0 := (Ext.cell hSw (p := ⟨b, o + (k + 1) * 2, none⟩) hb).trans q0; have k1 := (Ext.cell hSw (p := ⟨b, o + (k + 1) * 2 + 1, none⟩) hb).trans q1; have k2 := (Ext.cell hSw (p := ⟨b, o + k * 2, none⟩) hb).trans hp0; go_simp; (try with_reducible rfl))
         case restm76 =>
         try simp only [Act.put, List.setIfInBounds_toArray, List.set_cons_zero, List.set_cons_succ]
         refine wpAnyH_take (i := 8) (oi := ?oim77) (v := ?vm77) ?him77 (by kernel_rfl) (by kernel_rfl) (by kernel_rfl) ?hQm77 (Or.inl ⟨?hwm77, ?hym77⟩) hHeld ?restm77
         case him77 => simp only [List.getElem?_toArray, List.getElem?_cons_succ, List.getElem?_cons_zero]; rfl
         case hQm77 => exact fun _ _ _ h => h
         case hwm77 => rfl
         case hym77 => (intro w9 hSw; have k0 := (Ext.cell hSw (p := ⟨b, o + (k + 1) * 2, none⟩) hb).trans q0; have k1 := (Ext.cell hSw (p := ⟨b, o + (k + 1) * 2 + 1, none⟩) hb).trans q1; have k2 := (Ext.cell hSw (p := ⟨b, o + k * 2, none⟩) hb).trans hp0; go_simp; (try with_reducible rfl))
         case restm77 =>
         try simp only [Act.put, List.setIfInBounds_toArray, List.set_cons_zero, List.set_cons_succ]
         refine wpAnyH_take (i := 9) (oi := ?oim78) (v := ?vm78) ?him78 (by kernel_rfl) (by kernel_rfl) (by kernel_rfl) ?hQm78 (Or.inl ⟨?hwm78, ?hym78⟩) hHeld ?restm78
         case him78 => simp only [List.getElem?_toArray, List.getElem?_cons_succ, List.getElem?_cons_zero]; rfl
         case hQm78 => exact fun _ _ _ h => h
         case hwm78 => rfl
         case hym78 => (intro w9 hSw; have k0 := (Ext.cell hSw (p := ⟨b, o + (k + 1) * 2, none⟩) hb).trans q0; have k1 := (Ext.cell hSw (p := ⟨b, o + (k + 1) * 2 + 1, none⟩) hb).trans q1; have k2 := (Ext.cell hSw (p := ⟨b, o + k * 2, none⟩) hb).trans hp0; go_simp; (try with_reducible rfl))
         case restm78 =>
         try simp only [Act.put, List.setIfInBounds_toArray, List.set_cons_zero, List.set_cons_succ]
         refine wpAnyH_take (i := 10) (oi := ?oim79) (v := ?vm79) ?him79 (by kernel_rfl) (by kernel_rfl) (by kernel_rfl) ?hQm79 (Or.inl ⟨?hwm79, ?hym79⟩) hHeld ?restm79
         case him79 => simp only [List.getElem?_toArray, List.getElem?_cons_succ, List.getElem?_cons_zero]; rfl
         case hQm79 => exact fun _ _ _ h => h
         case hwm79 => rfl
         case hym79 => (intro w9 hSw; have k0 := (Ext.cell hSw (p := ⟨b, o + (k + 1) * 2, none⟩) hb).trans q0; have k1 := (Ext.cell hSw (p := ⟨b, o + (k + 1) * 2 + 1, none⟩) hb).trans q1; have k2 := (Ext.cell hSw (p := ⟨b, o + k * 2, none⟩) hb).trans hp0; go_simp; (try with_reducible rfl))
         case restm79 =>
         try simp only [Act.put, List.setIfInBounds_toArray, List.set_cons_zero, List.set_cons_succ]
         refine wpAnyH_take (i := 11) (oi := ?oim80) (v := ?vm80) ?him80 (by kernel_rfl) (by kernel_rfl) (by kernel_rfl) ?hQm80 (Or.inl ⟨?hwm80, ?hym80⟩) hHeld ?restm80
         case him80 => simp only [List.getElem?_toArray, List.getElem?_cons_succ, List.getElem?_cons_zero]; rfl
         case hQm80 => exact fun _ _ _ h => h
         case hwm80 => rfl
         case hym80 => (intro w9 hSw; have k0 := (Ext.cell hSw (p := ⟨b, o + (k + 1) * 2, none⟩) hb).trans q0; have k1 := (Ext.cell hSw (p := ⟨b, o + (k + 1) * 2 + 1, none⟩) hb).trans q1; have k2 := (Ext.cell hSw (p := ⟨b, o + k * 2, none⟩) hb).trans hp0; go_simp; (try with_reducible rfl))
         case restm80 =>
         try simp only [Act.put, List.setIfInBounds_toArray, List.set_cons_zero, List.set_cons_succ]
         refine wpAnyH_take (i := 12) (oi := ?oim81) (v := ?vm81) ?him81 (by kernel_rfl) (by kernel_rfl) (by kernel_rfl) ?hQm81 (Or.inl ⟨?hwm81, ?hym81⟩) hHeld ?restm81
         case him81 => simp only [List.getElem?_toArray, List.getElem?_cons_succ, List.getElem?_cons_zero]; rfl
         case hQm81 => exact fun _ _ _ h => h
         case hwm81 => rfl
         case hym81 => (intro w9 hSw; have k0 := (Ext.cell hSw (p := ⟨b, o + (k + 1) * 2, none⟩) hb).trans q0; have k1 := (Ext.cell hSw (p := ⟨b, o + (k + 1) * 2 + 1, none⟩) hb).trans q1; have k2 := (Ext.cell hSw (p := ⟨b, o + k * 2, none⟩) hb).trans hp0; go_simp; (try with_reducible rfl))
         case restm81 =>
         try simp only [Act.put, List.setIfInBounds_toArray, List.set_cons_zero, List.set_cons_succ]
         refine wpAnyH_ready (rs := [13]) (by kernel_rfl) (by simp) (AllReadyH.cons (o := ?om82) ?im82 (fun K hK => ?_) AllReadyH.nil)
         case im82 => simp only [List.getElem?_toArray, List.getElem?_cons_succ, List.getElem?_cons_zero]; rfl
         rw [if_pos (by rfl)]
         go_simp
         go_at_call 67
         (with_reducible refine (V _).mono ?_)
         rintro e wz ⟨rfl, xz⟩
         refine hK.out _ _ (Ext.trans hHeld xz) (fun hHeld => ?_)
         clear hK K
         try simp only [List.setIfInBounds_toArray, List.set_cons_zero, List.set_cons_succ]
         refine wpAnyH_take (i := 14) (oi := ?oim83) (v := ?vm83) ?him83 (by kernel_rfl) (by kernel_rfl) (by kernel_rfl) ?hQm83 (Or.inl ⟨?hwm83, ?hym83⟩) hHeld ?restm83
         case him83 => simp only [List.getElem?_toArray, List.getElem?_cons_succ, List.getElem?_cons_zero]; rfl
         case hQm83 => exact fun _ _ _ h => h
         case hwm83 => rfl
         case hym83 => (intro w9 hSw; have k0 := (Ext.cell hSw (p := ⟨b, o + (k + 1) * 2, none⟩) hb).trans q0; have k1 := (Ext.cell hSw (p := ⟨b, o + (k + 1) * 2 + 1, none⟩) hb).trans q1; have k2 := (Ext.cell hSw (p := ⟨b, o + k * 2, none⟩) hb).trans hp0; go_simp; (try with_reducible rfl))
         case restm83 =>
         try simp only [Act.put, List.setIfInBounds_toArray, List.set_cons_zero, List.set_cons_succ]
         refine wpAnyH_take (i := 15) (oi := ?oim84) (v := ?vm84) ?him84 (by kernel_rfl) (by kernel_rfl) (by kernel_rfl) ?hQm84 (Or.inl ⟨?hwm84, ?hym84⟩) hHeld ?restm84
         case him84 => simp only [List.getElem?_toArray, List.getElem?_cons_succ, List.getElem?_cons_zero]; rfl
         case hQm84 => exact fun _ _ _ h => h
         case hwm84 => rfl
         case hym84 => (intro w9 hSw; have k0 := (Ext.cell hSw (p := ⟨b, o + (k + 1) * 2, none⟩) hb).trans q0; have k1 := (Ext.cell hSw (p := ⟨b, o + (k + 1) * 2 + 1, none⟩) hb).trans q1; have k2 := (Ext.cell hSw (p := ⟨b, o + k * 2, none⟩) hb).trans hp0; go_simp; (try with_reducible rfl))
         case restm84 =>
         try simp only [Act.put, List.setIfInBounds_toArray, List.set_cons_zero, List.set_cons_succ]
         refine wpAnyH_take (i := 16) (oi := ?oim85) (v := ?vm85) ?him85 (by kernel_rfl) (by kernel_rfl) (by kernel_rfl) ?hQm85 (Or.inl ⟨?hwm85, ?hym85⟩) hHeld ?restm85
         case him85 => simp only [List.getElem?_toArray, List.getElem?_cons_succ, List.getElem?_cons_zero]; rfl
         case hQm85 => exact fun _ _ _ h => h
         case hwm85 => rfl
         case hym85 => (intro w9 hSw; have k0 := (Ext.cell hSw (p := ⟨b, o + (k + 1) * 2, none⟩) hb).trans q0; have k1 := (Ext.cell hSw (p := ⟨b, o + (k + 1) * 2 + 1, none⟩) hb).trans q1; have k2 := (Ext.cell hSw (p := ⟨b, o + k * 2, none⟩) hb).trans hp0; go_simp; (try with_reducible rfl))
         case restm85 =>
         try simp only [Act.put, List.setIfInBounds_toArray, List.set_cons_zero, List.set_cons_succ]
         refine wpAnyH_take (i := 17) (oi := ?oim86) (v := ?vm86) ?him86 (by kernel_rfl) (by kernel_rfl) (by kernel_rfl) ?hQm86 (Or.inl ⟨?hwm86, ?hym86⟩) hHeld ?restm86
         case him86 => simp only [List.getElem?_toArray, List.getElem?_cons_succ, List.getElem?_cons_zero]; rfl
         case hQm86 => exact fun _ _ _ h => h
         case hwm86 => rfl
         case hym86 => (intro w9 hSw; have k0 := (Ext.cell hSw (p := ⟨b, o + (k + 1) * 2, none⟩) hb).trans q0; have k1 := (Ext.cell hSw (p := ⟨b, o + (k + 1) * 2 + 1, none⟩) hb).trans q1; have k2 := (Ext.cell hSw (p := ⟨b, o + k * 2, none⟩) hb).trans hp0; go_simp; (try with_reducible rfl))
         case restm86 =>
         try simp only [Act.put, List.setIfInBounds_toArray, List.set_cons_zero, List.set_cons_succ]
         refine wpAnyH_take (i := 18) (oi := ?oim87) (v := ?vm87) ?him87 (by kernel_rfl) (by kernel_rfl) (by kernel_rfl) ?hQm87 (Or.inl ⟨?hwm87, ?hym87⟩) hHeld ?restm87
         case him87 => simp only [List.getElem?_toArray, List.getElem?_cons_succ, List.getElem?_cons_zero]; rfl
         case hQm87 => exact fun _ _ _ h => h
         case hwm87 => rfl
         case hym87 => (intro w9 hSw; have k0 := (Ext.cell hSw (p := ⟨b, o + (k + 1) * 2, none⟩) hb).trans q0; have k1 := (Ext.cell hSw (p := ⟨b, o + (k + 1) * 2 + 1, none⟩) hb).trans q1; have k2 := (Ext.cell hSw (p := ⟨b, o + k * 2, none⟩) hb).trans hp0; go_simp; (try with_reducible rfl))
         case restm87 =>
         try simp only [Act.put, List.setIfInBounds_toArray, List.set_cons_zero, List.set_cons_succ]
         refine wpAnyH_take (i := 19) (oi := ?oim88) (v := ?vm88) ?him88 (by kernel_rfl) (by kernel_rfl) (by kernel_rfl) ?hQm88 (Or.inl ⟨?hwm88, ?hym88⟩) hHeld ?restm88
         case him88 => simp only [List.getElem?_toArray, List.getElem?_cons_succ, List.getElem?_cons_zero]; rfl
         case hQm88 => exact fun _ _ _ h => h
         case hwm88 => rfl
         case hym88 => (intro w9 hSw; have k0 := (Ext.cell hSw (p := ⟨b, o + (k + 1) * 2, none⟩) hb).trans q0; have k1 := (Ext.cell hSw (p := ⟨b, o + (k + 1) * 2 + 1, none⟩) hb).trans q1; have k2 := (Ext.cell hSw (p := ⟨b, o + k * 2, none⟩) hb).trans hp0; go_simp; (try with_reducible rfl))
         case restm88 =>
         try simp only [Act.put, List.setIfInBounds_toArray, List.set_cons_zero, List.set_cons_succ]
         refine wpAnyH_take (i := 20) (oi := ?oim89) (v := ?vm89) ?him89 (by kernel_rfl) (by kernel_rfl) (by kernel_rfl) ?hQm89 (Or.inl ⟨?hwm89, ?hym89⟩) hHeld ?restm89
         case him89 => simp only [List.getElem?_toArray, List.getElem?_cons_succ, List.getElem?_cons_zero]; rfl
         case hQm89 => exact fun _ _ _ h => h
         case hwm89 => rfl
         case hym89 => (intro w9 hSw; have k0 := (Ext.cell hSw (p := ⟨b, o + (k + 1) * 2, none⟩) hb).trans q0; have k1 := (Ext.cell hSw (p := ⟨b, o + (k + 1) * 2 + 1, none⟩) hb).trans q1; have k2 := (Ext.cell hSw (p := ⟨b, o + k * 2, none⟩) hb).trans hp0; go_simp; (try with_reducible rfl))
         case restm89 =>
         try simp only [Act.put, List.setIfInBounds_toArray, List.set_cons_zero, List.set_cons_succ]
         refine wpAnyH_take (i := 21) (oi := ?oim90) (v := ?vm90) ?him90 (by kernel_rfl) (by kernel_rfl) (by kernel_rfl) ?hQm90 (Or.inl ⟨?hwm90, ?hym90⟩) hHeld ?restm90
         case him90 => simp only [List.getElem?_toArray, List.getElem?_cons_succ, List.getElem?_cons_zero]; rfl
         case hQm90 => exact fun _ _ _ h => h
         case hwm90 => rfl
         case hym90 => (intro w9 hSw; have k0 := (Ext.cell hSw (p := ⟨b, o + (k + 1) * 2, none⟩) hb).trans q0; have k1 := (Ext.cell hSw (p := ⟨b, o + (k + 1) * 2 + 1, none⟩) hb).trans q1; have k2 := (Ext.cell hSw (p := ⟨b, o + k * 2, none⟩) hb).trans hp0; go_simp; (try with_reducible rfl))
         case restm90 =>
         try simp only [Act.put, List.setIfInBounds_toArray, List.set_cons_zero, List.set_cons_succ]
         refine wpAnyH_take (i := 22) (oi := ?oim91) (v := ?vm91) ?him91 (by kernel_rfl) (by kernel_rfl) (by kernel_rfl) ?hQm91 (Or.inl ⟨?hwm91, ?hym91⟩) hHeld ?restm91
         case him91 => simp only [List.getElem?_toArray, List.getElem?_cons_succ, List.getElem?_cons_zero]; rfl
         case hQm91 => exact fun _ _ _ h => h
         case hwm91 => rfl
         case hym91 => (intro w9 hSw; have k0 := (Ext.cell hSw (p := ⟨b, o + (k + 1) * 2, none⟩) hb).trans q0; have k1 := (Ext.cell hSw (p := ⟨b, o + (k + 1) * 2 + 1, none⟩) hb).trans q1; have k2 := (Ext.cell hSw (p := ⟨b, o + k * 2, none⟩) hb).trans hp0; go_simp; (try with_reducible rfl))
         case restm91 =>
         try simp only [Act.put, List.setIfInBounds_toArray, List.set_cons_zero, List.set_cons_succ]
         refine wpAnyH_take (i := 23) (oi := ?oim92) (v := ?vm92) ?him92 (by kernel_rfl) (by kernel_rfl) (by kernel_rfl) ?hQm92 (Or.inl ⟨?hwm92, ?hym92⟩) hHeld ?restm92
         case him92 => simp only [List.getElem?_toArray, List.getElem?_cons_succ, List.getElem?_cons_zero]; rfl
         case hQm92 => exact fun _ _ _ h => h
         case hwm92 => rfl
         case hym92 => (intro w9 hSw; have k0 := (Ext.cell hSw (p := ⟨b, o + (k + 1) * 2, none⟩) hb).trans q0; have k1 := (Ext.cell hSw (p := ⟨b, o + (k + 1) * 2 + 1, none⟩) hb).trans q1; have k2 := (Ext.cell hSw (p := ⟨b, o + k * 2, none⟩) hb).trans hp0; go_simp; (try with_reducible rfl))
         case restm92 =>
         try simp only [Act.put, List.setIfInBounds_toArray, List.set_cons_zero, List.set_cons_succ]
         refine wpAnyH_take (i := 24) (oi := ?oim93) (v := ?vm93) ?him93 (by kernel_rfl) (by kernel_rfl) (by kernel_rfl) ?hQm93 (Or.inl ⟨?hwm93, ?hym93⟩) hHeld ?restm93
         case him93 => simp only [List.getElem?_toArray, List.getElem?_cons_succ, List.getElem?_cons_zero]; rfl
         case hQm93 => exact fun _ _ _ h => h
         case hwm93 => rfl
         case hym93 => (intro w9 hSw; have k0 := (Ext.cell hSw (p := ⟨b, o + (k + 1) * 2, none⟩) hb).trans q0; have k1 := (Ext.cell hSw (p := ⟨b, o + (k + 1) * 2 + 1, none⟩) hb).trans q1; have k2 := (Ext.cell hSw (p := ⟨b, o + k * 2, none⟩) hb).trans hp0; go_simp; (try with_reducible rfl))
         case restm93 =>
         try simp only [Act.put, List.setIfInBounds_toArray, List.set_cons_zero, List.set_cons_succ]
         refine wpAnyH_take (i := 25) (oi := ?oim94) (v := ?vm94) ?him94 (by kernel_rfl) (by kernel_rfl) (by kernel_rfl) ?hQm94 (Or.inl ⟨?hwm94, ?hym94⟩) hHeld ?restm94
         case him94 => simp only [List.getElem?_toArray, List.getElem?_cons_succ, List.getElem?_cons_zero]; rfl
         case hQm94 => exact fun _ _ _ h => h
         case hwm94 => rfl
         case hym94 => (intro w9 hSw; have k0 := (Ext.cell hSw (p := ⟨b, o + (k + 1) * 2, none⟩) hb).trans q0; have k1 := (Ext.cell hSw (p := ⟨b, o + (k + 1) * 2 + 1, none⟩) hb).trans q1; have k2 := (Ext.cell hSw (p := ⟨b, o + k * 2, none⟩) hb).trans hp0; go_simp; (try with_reducible rfl))
         case restm94 =>
         try simp only [Act.put, List.setIfInBounds_toArray, List.set_cons_zero, List.set_cons_succ]
         refine wpAnyH_take (i := 26) (oi := ?oim95) (v := ?vm95) ?him95 (by kernel_rfl) (by kernel_rfl) (by kernel_rfl) ?hQm95 (Or.inl ⟨?hwm95, ?hym95⟩) hHeld ?restm95
         case him95 => simp only [List.getElem?_toArray, List.getElem?_cons_succ, List.getElem?_cons_zero]; rfl
         case hQm95 => exact fun _ _ _ h => h
         case hwm95 => rfl
         case hym95 => (intro w9 hSw; have k0 := (Ext.cell hSw (p := ⟨b, o + (k + 1) * 2, none⟩) hb).trans q0; have k1 := (Ext.cell hSw (p := ⟨b, o + (k + 1) * 2 + 1, none⟩) hb).trans q1; have k2 := (Ext.cell hSw (p := ⟨b, o + k * 2, none⟩) hb).trans hp0; go_simp; (try with_reducible rfl))
         case restm95 =>
         try simp only [Act.put, List.setIfInBounds_toArray, List.set_cons_zero, List.set_cons_succ]
         refine wpAnyH_take (i := 27) (oi := ?oim96) (v := ?vm96) ?him96 (by kernel_rfl) (by kernel_rfl) (by kernel_rfl) ?hQm96 (Or.inl ⟨?hwm96, ?hym96⟩) hHeld ?restm96
         case him96 => simp only [List.getElem?_toArray, List.getElem?_cons_succ, List.getElem?_cons_zero]; rfl
         case hQm96 => exact fun _ _ _ h => h
         case hwm96 => rfl
         case hym96 => (intro w9 hSw; have k0 := (Ext.cell hSw (p := ⟨b, o + (k + 1) * 2, none⟩) hb).trans q0; have k1 := (Ext.cell hSw (p := ⟨b, o + (k + 1) * 2 + 1, none⟩) hb).trans q1; have k2 := (Ext.cell hSw (p := ⟨b, o + k * 2, none⟩) hb).trans hp0; go_simp; (try with_reducible rfl))
         case restm96 =>
         try simp only [Act.put, List.setIfInBounds_toArray, List.set_cons_zero, List.set_cons_succ]
         refine wpAnyH_take (i := 28) (oi := ?oim97) (v := ?vm97) ?him97 (by kernel_rfl) (by kernel_rfl) (by kernel_rfl) ?hQm97 (Or.inl ⟨?hwm97, ?hym97⟩) hHeld ?restm97
         case him97 => simp only [List.getElem?_toArray, List.getElem?_cons_succ, List.getElem?_cons_zero]; rfl
         case hQm97 => exact fun _ _ _ h => h
         case hwm97 => rfl
         case hym97 => (intro w9 hSw; have k0 := (Ext.cell hSw (p := ⟨b, o + (k + 1) * 2, none⟩) hb).trans q0; have k1 := (Ext.cell hSw (p := ⟨b, o + (k + 1) * 2 + 1, none⟩) hb).trans q1; have k2 := (Ext.cell hSw (p := ⟨b, o + k * 2, none⟩) hb).trans hp0; go_simp; (try with_reducible rfl))
         case restm97 =>
         try simp only [Act.put, List.setIfInBounds_toArray, List.set_cons_zero, List.set_cons_succ]
         refine wpAnyH_take (i := 29) (oi := ?oim98) (v := ?vm98) ?him98 (by kernel_rfl) (by kernel_rfl) (by kernel_rfl) ?hQm98 (Or.inl ⟨?hwm98, ?hym98⟩) hHeld ?restm98
         case him98 => simp only [List.getElem?_toArray, List.getElem?_cons_succ, List.getElem?_cons_zero]; rfl
         case hQm98 => exact fun _ _ _ h => h
         case hwm98 => rfl
         case hym98 => (intro w9 hSw; have k0 := (Ext.cell hSw (p := ⟨b, o + (k + 1) * 2, none⟩) hb).trans q0; have k1 := (Ext.cell hSw (p := ⟨b, o + (k + 1) * 2 + 1, none⟩) hb).trans q1; have k2 := (Ext.cell hSw (p := ⟨b, o + k * 2, none⟩) hb).trans hp0; go_simp; (try with_reducible rfl))
         case restm98 =>
         try simp only [Act.put, List.setIfInBounds_toArray, List.set_cons_zero, List.set_cons_succ]
         refine wpAnyH_take (i := 30) (oi := ?oim99) (v := ?vm99) ?him99 (by kernel_rfl) (by kernel_rfl) (by kernel_rfl) ?hQm99 (Or.inl ⟨?hwm99, ?hym99⟩) hHeld ?restm99
         case him99 => simp only [List.getElem?_toArray, List.getElem?_cons_succ, List.getElem?_cons_zero]; rfl
         case hQm99 => exact fun _ _ _ h => h
         case hwm99 => rfl
         case hym99 => (intro w9 hSw; have k0 := (Ext.cell hSw (p := ⟨b, o + (k + 1) * 2, none⟩) hb).trans q0; have k1 := (Ext.cell hSw (p := ⟨b, o + (k + 1) * 2 + 1, none⟩) hb).trans q1; have k2 := (Ext.cell hSw (p := ⟨b, o + k * 2, none⟩) hb).trans hp0; go_simp; (try with_reducible rfl))
         case restm99 =>
         try simp only [Act.put, List.setIfInBounds_toArray, List.set_cons_zero, List.set_cons_succ]
         refine wpAnyH_take (i := 31) (oi := ?oim100) (v := ?vm100) ?him100 (by kernel_rfl) (by kernel_rfl) (by kernel_rfl) ?hQm100 (Or.inl ⟨?hwm100, ?hym100⟩) hHeld ?restm100
         case him100 => simp only [List.getElem?_toArray, List.getElem?_cons_succ, List.getElem?_cons_zero]; rfl
         case hQm100 => exact fun _ _ _ h => h
         case hwm100 => rfl
         case hym100 => (intro w9 hSw; have k0 := (Ext.cell hSw (p := ⟨b, o + (k + 1) * 2, none⟩) hb).trans q0; have k1 := (Ext.cell hSw (p := ⟨b, o + (k + 1) * 2 + 1, none⟩) hb).trans q1; have k2 := (Ext.cell hSw (p := ⟨b, o + k * 2, none⟩) hb).trans hp0; go_simp; (try with_reducible rfl))
         case restm100 =>
         try simp only [Act.put, List.setIfInBounds_toArray, List.set_cons_zero, List.set_cons_succ]
         refine wpAnyH_take (i := 32) (oi := ?oim101) (v := ?vm101) ?him101 (by kernel_rfl) (by kernel_rfl) (by kernel_rfl) ?hQm101 (Or.inl ⟨?hwm101, ?hym101⟩) hHeld ?restm101
         case him101 => simp only [List.getElem?_toArray, List.getElem?_cons_succ, List.getElem?_cons_zero]; rfl
         case hQm101 => exact fun _ _ _ h => h
         case hwm101 => rfl
         case hym101 => (intro w9 hSw; have k0 := (Ext.cell hSw (p := ⟨b, o + (k + 1) * 2, none⟩) hb).trans q0; have k1 := (Ext.cell hSw (p := ⟨b, o + (k + 1) * 2 + 1, none⟩) hb).trans q1; have k2 := (Ext.cell hSw (p := ⟨b, o + k * 2, none⟩) hb).trans hp0; go_simp; (try with_reducible rfl))
         case restm101 =>
         try simp only [Act.put, List.setIfInBounds_toArray, List.set_cons_zero, List.set_cons_succ]
         refine wpAnyH_take (i := 33) (oi := ?oim102) (v := ?vm102) ?him102 (by kernel_rfl) (by kernel_rfl) (by kernel_rfl) ?hQm102 (Or.inl ⟨?hwm102, ?hym102⟩) hHeld ?restm102
         case him102 => simp only [List.getElem?_toArray, List.getElem?_cons_succ, List.getElem?_cons_zero]; rfl
         case hQm102 => exact fun _ _ _ h => h
         case hwm102 => rfl
         case hym102 => (intro w9 hSw; have k0 := (Ext.cell hSw (p := ⟨b, o + (k + 1) * 2, none⟩) hb).trans q0; have k1 := (Ext.cell hSw (p := ⟨b, o + (k + 1) * 2 + 1, none⟩) hb).trans q1; have k2 := (Ext.cell hSw (p := ⟨b, o + k * 2, none⟩) hb).trans hp0; go_simp; (try with_reducible rfl))
         case restm102 =>
         try simp only [Act.put, List.setIfInBounds_toArray, List.set_cons_zero, List.set_cons_succ]
         refine wpAnyH_done (by kernel_rfl) ?_ _
         go_wp2_with fail
         go_roundw
         case rel => exact ⟨k + 1 + 1, rfl, hlt, Lib.hid (by rw [htl]; exact hd1.out), hHeld⟩
         case measure => simp only [intOf]; omega
     ·rw [show valueB v = false from by simpa using hv] at V
      have HV : Hid (R = false) := Lib.hid (by
       rw [← hd]
       cases (l.take k).getLast?.map (·.1) <;> (unfold goodGo; rw [hn, show valueB v = false from by simpa using hv]; rfl))
      clear hd hn hv
      go_wp2_with fail
      refine wp_region_held_drew (S := Ext w) (by kernel_rfl) (xr.drew) (fun hHeld => ?_)
      refine wpAnyH_take (i := 0) (oi := ?oim103) (v := ?vm103) ?him103 (by kernel_rfl) (by kernel_rfl) (by kernel_rfl) ?hQm103 (Or.inl ⟨?hwm103, ?hym103⟩) hHeld ?restm103
      case him103 => simp only [List.getElem?_toArray, List.getElem?_cons_zero]; rfl
      case hQm103 => exact fun _ _ _ h => h
      case hwm103 => rfl
      case hym103 => (intro w9 hSw; have k0 := (Ext.cell hSw (p := ⟨b, o + k * 2, none⟩) hb).trans q0; have k1 := (Ext.cell hSw (p := ⟨b, o + k * 2 + 1, none⟩) hb).trans q1; go_simp; (try with_reducible rfl))
      case restm103 =>
      try simp only [Act.put, List.setIfInBounds_toArray, List.set_cons_zero, List.set_cons_succ]
      refine wpAnyH_take (i := 1) (oi := ?oim104) (v := ?vm104) ?him104 (by kernel_rfl) (by kernel_rfl) (by kernel_rfl) ?hQm104 (Or.inl ⟨?hwm104, ?hym104⟩) hHeld ?restm104
      case him104 => simp only [List.getElem?_toArray, List.getElem?_cons_succ, List.getElem?_cons_zero]; rfl
      case hQm104 => exact fun _ _ _ h => h
      case hwm104 => rfl
      case hym104 => (intro w9 hSw; have k0 := (Ext.cell hSw (p := ⟨b, o + k * 2, none⟩) hb).trans q0; have k1 := (Ext.cell hSw (p := ⟨b, o + k * 2 + 1, none⟩) hb).trans q1; go_simp; (try with_reducible rfl))
      case restm104 =>
      try simp only [Act.put, List.setIfInBounds_toArray, List.set_cons_zero, List.set_cons_succ]
      refine wpAnyH_take (i := 2) (oi := ?oim105) (v := ?vm105) ?him105 (by kernel_rfl) (by kernel_rfl) (by kernel_rfl) ?hQm105 (Or.inl ⟨?hwm105, ?hym105⟩) hHeld ?restm105
      case him105 => simp only [List.getElem?_toArray, List.getElem?_cons_succ, List.getElem?_cons_zero]; rfl
      case hQm105 => exact fun _ _ _ h => h
      case hwm105 => rfl
      case hym105 => (intro w9 hSw; have k0 := (Ext.cell hSw (p := ⟨b, o + k * 2, none⟩) hb).trans q0; have k1 := (Ext.cell hSw (p := ⟨b, o + k * 2 + 1, none⟩) hb).trans q1; go_simp; (try with_reducible rfl))
      case restm105 =>
      try simp only [Act.put, List.setIfInBounds_toArray, List.set_cons_zero, List.set_cons_succ]
      refine wpAnyH_take (i := 3) (oi := ?oim106) (v := ?vm106) ?him106 (by kernel_rfl) (by kernel_rfl) (by kernel_rfl) ?hQm106 (Or.inl ⟨?hwm106, ?hym106⟩) hHeld ?restm106
      case him106 => simp only [List.getElem?_toArray, List.getElem?_cons_succ, List.getElem?_cons_zero]; rfl
      case hQm106 => exact fun _ _ _ h => h
      case hwm106 => rfl
      case hym106 => (intro w9 hSw; have k0 := (Ext.cell hSw (p := ⟨b, o + k * 2, none⟩) hb).trans q0; have k1 := (Ext.cell hSw (p := ⟨b, o + k * 2 + 1, none⟩) hb).trans q1; go_simp; (try with_reducible rfl))
      case restm106 =>
      try simp only [Act.put, List.setIfInBounds_toArray, List.set_cons_zero, List.set_cons_succ]
      refine wpAnyH_take (i := 4) (oi := ?oim107) (v := ?vm107) ?him107 (by kernel_rfl) (by kernel_rfl) (by kernel_rfl) ?hQm107 (Or.inl ⟨?hwm107, ?hym107⟩) hHeld ?restm107
      case him107 => simp only [List.getElem?_toArray, List.getElem?_cons_succ, List.getElem?_cons_zero]; rfl
      case hQm107 => exact fun _ _ _ h => h
      case hwm107 => rfl
      case hym107 => (intro w9 hSw; have k0 := (Ext.cell hSw (p := ⟨b, o + k * 2, none⟩) hb).trans q0; have k1 := (Ext.cell hSw (p := ⟨b, o + k * 2 + 1, none⟩) hb).trans q1; go_simp; (try with_reducible rfl))
      case restm107 =>
      try simp only [Act.put, List.setIfInBounds_toArray, List.set_cons_zero, List.set_cons_succ]
      refine wpAnyH_ready (rs := [5]) (by kernel_rfl) (by simp) (AllReadyH.cons (o := ?om108) ?im108 (fun K hK => ?_) AllReadyH.nil)
      case im108 => simp only [List.getElem?_toArray, List.getElem?_cons_succ, List.getElem?_cons_zero]; rfl
      rw [if_pos (by rfl)]
      go_simp
      go_at_call 65
      (with_reducible refine (N _).mono ?_)
      rintro e wz ⟨rfl, xz⟩
      refine hK.out _ _ (Ext.trans hHeld xz) (fun hHeld => ?_)
      clear hK K
      try simp only [List.setIfInBounds_toArray, List.set_cons_zero, List.set_cons_succ]
      refine wpAnyH_take (i := 6) (oi := ?oim109) (v := ?vm109) ?him109 (by kernel_rfl) (by kernel_rfl) (by kernel_rfl) ?hQm109 (Or.inl ⟨?hwm109, ?hym109⟩) hHeld ?restm109
      case him109 => simp only [List.getElem?_toArray, List.getElem?_cons_succ, List.getElem?_cons_zero]; rfl
      case hQm109 => exact fun _ _ _ h => h
      case hwm109 => rfl
      case hym109 => (intro w9 hSw; have k0 := (Ext.cell hSw (p := ⟨b, o + k * 2, none⟩) hb).trans q0; have k1 := (Ext.cell hSw (p := ⟨b, o + k * 2 + 1, none⟩) hb).trans q1; go_simp; (try with_reducible rfl))
      case restm109 =>
      try simp only [Act.put, List.setIfInBounds_toArray, List.set_cons_zero, List.set_cons_succ]
      refine wpAnyH_take (i := 7) (oi := ?oim110) (v := ?vm110) ?him110 (by kernel_rfl) (by kernel_rfl) (by kernel_rfl) ?hQm110 (Or.inl ⟨?hwm110, ?hym110⟩) hHeld ?restm110
      case him110 => simp only [List.getElem?_toArray, List.getElem?_cons_succ, List.getElem?_cons_zero]; rfl
      case hQm110 => exact fun _ _ _ h => h
      case hwm110 => rfl
      case hym110 => (intro w9 hSw; have k0 := (Ext.cell hSw (p := ⟨b, o + k * 2, none⟩) hb).trans q0; have k1 := (Ext.cell hSw (p := ⟨b, o + k * 2 + 1, none⟩) hb).trans q1; go_simp; (try with_reducible rfl))
      case restm110 =>
      try simp only [Act.put, List.setIfInBounds_toArray, List.set_cons_zero, List.set_cons_succ]
      refine wpAnyH_take (i := 8) (oi := ?oim111) (v := ?vm111) ?him111 (by kernel_rfl) (by kernel_rfl) (by kernel_rfl) ?hQm111 (Or.inl ⟨?hwm111, ?hym111⟩) hHeld ?restm111
      case him111 => simp only [List.getElem?_toArray, List.getElem?_cons_succ, List.getElem?_cons_zero]; rfl
      case hQm111 => exact fun _ _ _ h => h
      case hwm111 => rfl
      case hym111 => (intro w9 hSw; have k0 := (Ext.cell hSw (p := ⟨b, o + k * 2, none⟩) hb).trans q0; have k1 := (Ext.cell hSw (p := ⟨b, o + k * 2 + 1, none⟩) hb).trans q1; go_simp; (try with_reducible rfl))
      case restm111 =>
      try simp only [Act.put, List.setIfInBounds_toArray, List.set_cons_zero, List.set_cons_succ]
      refine wpAnyH_take (i := 9) (oi := ?oim112) (v := ?vm112) ?him112 (by kernel_rfl) (by kernel_rfl) (by kernel_rfl) ?hQm112 (Or.inl ⟨?hwm112, ?hym112⟩) hHeld ?restm112
      case him112 => simp only [List.getElem?_toArray, List.getElem?_cons_succ, List.getElem?_cons_zero]; rfl
      case hQm112 => exact fun _ _ _ h => h
      case hwm112 => rfl
      case hym112 => (intro w9 hSw; have k0 := (Ext.cell hSw (p := ⟨b, o + k * 2, none⟩) hb).trans q0; have k1 := (Ext.cell hSw (p := ⟨b, o + k * 2 + 1, none⟩) hb).trans q1; go_simp; (try with_reducible rfl))
      case restm112 =>
      try simp only [Act.put, List.setIfInBounds_toArray, List.set_cons_zero, List.set_cons_succ]
      refine wpAnyH_take (i := 10) (oi := ?oim113) (v := ?vm113) ?him113 (by kernel_rfl) (by kernel_rfl) (by kernel_rfl) ?hQm113 (Or.inl ⟨?hwm113, ?hym113⟩) hHeld ?restm113
      case him113 => simp only [List.getElem?_toArray, List.getElem?_cons_succ, List.getElem?_cons_zero]; rfl
      case hQm113 => exact fun _ _ _ h => h
      case hwm113 => rfl
      case hym113 => (intro w9 hSw; have k0 := (Ext.cell hSw (p := ⟨b, o + k * 2, none⟩) hb).trans q0; have k1 := (Ext.cell hSw (p := ⟨b, o + k * 2 + 1, none⟩) hb).trans q1; go_simp; (try with_reducible rfl))
      case restm113 =>
      try simp only [Act.put, List.setIfInBounds_toArray, List.set_cons_zero, List.set_cons_succ]
      refine wpAnyH_take (i := 11) (oi := ?oim114) (v := ?vm114) ?him114 (by kernel_rfl) (by kernel_rfl) (by kernel_rfl) ?hQm114 (Or.inl ⟨?hwm114, ?hym114⟩) hHeld ?restm114
      case him114 => simp only [List.getElem?_toArray, List.getElem?_cons_succ, List.getElem?_cons_zero]; rfl
      case hQm114 => exact fun _ _ _ h => h
      case hwm114 => rfl
      case hym114 => (intro w9 hSw; have k0 := (Ext.cell hSw (p := ⟨b, o + k * 2, none⟩) hb).trans q0; have k1 := (Ext.cell hSw (p := ⟨b, o + k * 2 + 1, none⟩) hb).trans q1; go_simp; (try with_reducible rfl))
      case restm114 =>
      try simp only [Act.put, List.setIfInBounds_toArray, List.set_cons_zero, List.set_cons_succ]
      refine wpAnyH_take (i := 12) (oi := ?oim115) (v := ?vm115) ?him115 (by kernel_rfl) (by kernel_rfl) (by kernel_rfl) ?hQm115 (Or.inl ⟨?hwm115, ?hym115⟩) hHeld ?restm115
      case him115 => simp only [List.getElem?_toArray, List.getElem?_cons_succ, List.getElem?_cons_zero]; rfl
      case hQm115 => exact fun _ _ _ h => h
      case hwm115 => rfl
      case hym115 => (intro w9 hSw; have k0 := (Ext.cell hSw (p := ⟨b, o + k * 2, none⟩) hb).trans q0; have k1 := (Ext.cell hSw (p := ⟨b, o + k * 2 + 1, none⟩) hb).trans q1; go_simp; (try with_reducible rfl))
      case restm115 =>
      try simp only [Act.put, List.setIfInBounds_toArray, List.set_cons_zero, List.set_cons_succ]
      refine wpAnyH_ready (rs := [13]) (by kernel_rfl) (by simp) (AllReadyH.cons (o := ?om116) ?im116 (fun K hK => ?_) AllReadyH.nil)
      case im116 => simp only [List.getElem?_toArray, List.getElem?_cons_succ, List.getElem?_cons_zero]; rfl
      rw [if_pos (by rfl)]
      go_simp
      go_at_call 67
      (with_reducible refine (V _).mono ?_)
      rintro e wz ⟨rfl, xz⟩
      refine hK.out _ _ (Ext.trans hHeld xz) (fun hHeld => ?_)
      clear hK K
      try simp only [List.setIfInBounds_toArray, List.set_cons_zero, List.set_cons_succ]
      refine wpAnyH_take (i := 14) (oi := ?oim117) (v := ?vm117) ?him117 (by kernel_rfl) (by kernel_rfl) (by kernel_rfl) ?hQm117 (Or.inl ⟨?hwm117, ?hym117⟩) hHeld ?restm117
      case him117 => simp only [List.getElem?_toArray, List.getElem?_cons_succ, List.getElem?_cons_zero]; rfl
      case hQm117 => exact fun _ _ _ h => h
      case hwm117 => rfl
      case hym117 => (intro w9 hSw; have k0 := (Ext.cell hSw (p := ⟨b, o + k * 2, none⟩) hb).trans q0; have k1 := (Ext.cell hSw (p := ⟨b, o + k * 2 + 1, none⟩) hb).trans q1; go_simp; (try with_reducible rfl))
      case restm117 =>
      try simp only [Act.put, List.setIfInBounds_toArray, List.set_cons_zero, List.set_cons_succ]
      refine wpAnyH_take (i := 15) (oi := ?oim118) (v := ?vm118) ?him118 (by kernel_rfl) (by kernel_rfl) (by kernel_rfl) ?hQm118 (Or.inl ⟨?hwm118, ?hym118⟩) hHeld ?restm118
      case him118 => simp only [List.getElem?_toArray, List.getElem?_cons_succ, List.getElem?_cons_zero]; rfl
      case hQm118 => exact fun _ _ _ h => h
      case hwm118 => rfl
      case hym118 => (intro w9 hSw; have k0 := (Ext.cell hSw (p := ⟨b, o + k * 2, none⟩) hb).trans q0; have k1 := (Ext.cell hSw (p := ⟨b, o + k * 2 + 1, none⟩) hb).trans q1; go_simp; (try with_reducible rfl))
      case restm118 =>
      try simp only [Act.put, List.setIfInBounds_toArray, List.set_cons_zero, List.set_cons_succ]
      refine wpAnyH_take (i := 16) (oi := ?oim119) (v := ?vm119) ?him119 (by kernel_rfl) (by kernel_rfl) (by kernel_rfl) ?hQm119 (Or.inl ⟨?hwm119, ?hym119⟩) hHeld ?restm119
      case him119 => simp only [List.getElem?_toArray, List.getElem?_cons_succ, List.getElem?_cons_zero]; rfl
      case hQm119 => exact fun _ _ _ h => h
      case hwm119 => rfl
      case hym119 => (intro w9 hSw; have k0 := (Ext.cell hSw (p := ⟨b, o + k * 2, none⟩) hb).trans q0; have k1 := (Ext.cell hSw (p := ⟨b, o + k * 2 + 1, none⟩) hb).trans q1; go_simp; (try with_reducible rfl))
      case restm119 =>
      try simp only [Act.put, List.setIfInBounds_toArray, List.set_cons_zero, List.set_cons_succ]
      refine wpAnyH_take (i := 17) (oi := ?oim120) (v := undef) ?him120 (by kernel_rfl) (by kernel_rfl) (by kernel_rfl) ?hQm120 (Or.inr ⟨?hwm120, rfl⟩) hHeld ?restm120
      case him120 => simp only [List.getElem?_toArray, List.getElem?_cons_succ, List.getElem?_cons_zero]; rfl
      case hQm120 => exact fun _ _ _ h => h
      case hwm120 => rfl
      case restm120 =>
      try simp only [Act.put, List.setIfInBounds_toArray, List.set_cons_zero, List.set_cons_succ]
      refine wpAnyH_take (i := 18) (oi := ?oim121) (v := undef) ?him121 (by kernel_rfl) (by kernel_rfl) (by kernel_rfl) ?hQm121 (Or.inr ⟨?hwm121, rfl⟩) hHeld ?restm121
      case him121 => simp only [List.getElem?_toArray, List.getElem?_cons_succ, List.getElem?_cons_zero]; rfl
      case hQm121 => exact fun _ _ _ h => h
      case hwm121 => rfl
      case restm121 =>
      try simp only [Act.put, List.setIfInBounds_toArray, List.set_cons_zero, List.set_cons_succ]
      refine wpAnyH_take (i := 19) (oi := ?oim122) (v := undef) ?him122 (by kernel_rfl) (by kernel_rfl) (by kernel_rfl) ?hQm122 (Or.inr ⟨?hwm122, rfl⟩) hHeld ?restm122
      case him122 => simp only [List.getElem?_toArray, List.getElem?_cons_succ, List.getElem?_cons_zero]; rfl
      case hQm122 => exact fun _ _ _ h => h
      case hwm122 => rfl
      case restm122 =>
      try simp only [Act.put, List.setIfInBounds_toArray, List.set_cons_zero, List.set_cons_succ]
      refine wpAnyH_take (i := 20) (oi := ?oim123) (v := undef) ?him123 (by kernel_rfl) (by kernel_rfl) (by kernel_rfl) ?hQm123 (Or.inr ⟨?hwm123, rfl⟩) hHeld ?restm123
      case him123 => simp only [List.getElem?_toArray, List.getElem?_cons_succ, List.getElem?_cons_zero]; rfl
      case hQm123 => exact fun _ _ _ h => h
      case hwm123 => rfl
      case restm123 =>
      try simp only [Act.put, List.setIfInBounds_toArray, List.set_cons_zero, List.set_cons_succ]
      refine wpAnyH_take (i := 21) (oi := ?oim124) (v := undef) ?him124 (by kernel_rfl) (by kernel_rfl) (by kernel_rfl) ?hQm124 (Or.inr ⟨?hwm124, rfl⟩) hHeld ?restm124
      case him124 => simp only [List.getElem?_toArray, List.getElem?_cons_succ, List.getElem?_cons_zero]; rfl
      case hQm124 => exact fun _ _ _ h => h
      case hwm124 => rfl
      case restm124 =>
      try simp only [Act.put, List.setIfInBounds_toArray, List.set_cons_zero, List.set_cons_succ]
      refine wpAnyH_take (i := 22) (oi := ?oim125) (v := undef) ?him125 (by kernel_rfl) (by kernel_rfl) (by kernel_rfl) ?hQm125 (Or.inr ⟨?hwm125, rfl⟩) hHeld ?restm125
      case him125 => simp only [List.getElem?_toArray, List.getElem?_cons_succ, List.getElem?_cons_zero]; rfl
      case hQm125 => exact fun _ _ _ h => h
      case hwm125 => rfl
      case restm125 =>
      try simp only [Act.put, List.setIfInBounds_toArray, List.set_cons_zero, List.set_cons_succ]
      refine wpAnyH_take (i := 23) (oi := ?oim126) (v := undef) ?him126 (by kernel_rfl) (by kernel_rfl) (by kernel_rfl) ?hQm126 (Or.inr ⟨?hwm126, rfl⟩) hHeld ?restm126
      case him126 => simp only [List.getElem?_toArray, List.getElem?_cons_succ, List.getElem?_cons_zero]; rfl
      case hQm126 => exact fun _ _ _ h => h
      case hwm126 => rfl
      case restm126 =>
      try simp only [Act.put, List.setIfInBounds_toArray, List.set_cons_zero, List.set_cons_succ]
      refine wpAnyH_take (i := 24) (oi := ?oim127) (v := undef) ?him127 (by kernel_rfl) (by kernel_rfl) (by kernel_rfl) ?hQm127 (Or.inr ⟨?hwm127, rfl⟩) hHeld ?restm127
      case him127 => simp only [List.getElem?_toArray, List.getElem?_cons_succ, List.getElem?_cons_zero]; rfl
      case hQm127 => exact fun _ _ _ h => h
      case hwm127 => rfl
      case restm127 =>
      try simp only [Act.put, List.setIfInBounds_toArray, List.set_cons_zero, List.set_cons_succ]
      refine wpAnyH_take (i := 25) (oi := ?oim128) (v := undef) ?him128 (by kernel_rfl) (by kernel_rfl) (by kernel_rfl) ?hQm128 (Or.inr ⟨?hwm128, rfl⟩) hHeld ?restm128
      case him128 => simp only [List.getElem?_toArray, List.getElem?_cons_succ, List.getElem?_cons_zero]; rfl
      case hQm128 => exact fun _ _ _ h => h
      case hwm128 => rfl
      case restm128 =>
      try simp only [Act.put, List.setIfInBounds_toArray, List.set_cons_zero, List.set_cons_succ]
      refine wpAnyH_take (i := 26) (oi := ?oim129) (v := undef) ?him129 (by kernel_rfl) (by kernel_rfl) (by kernel_rfl) ?hQm129 (Or.inr ⟨?hwm129, rfl⟩) hHeld ?restm129
      case him129 => simp only [List.getElem?_toArray, List.getElem?_cons_succ, List.getElem?_cons_zero]; rfl
      case hQm129 => exact fun _ _ _ h => h
      case hwm129 => rfl
      case restm129 =>
      try simp only [Act.put, List.setIfInBounds_toArray, List.set_cons_zero, List.set_cons_succ]
      refine wpAnyH_take (i := 27) (oi := ?oim130) (v := undef) ?him130 (by kernel_rfl) (by kernel_rfl) (by kernel_rfl) ?hQm130 (Or.inr ⟨?hwm130, rfl⟩) hHeld ?restm130
      case him130 => simp only [List.getElem?_toArray, List.getElem?_cons_succ, List.getElem?_cons_zero]; rfl
      case hQm130 => exact fun _ _ _ h => h
      case hwm130 => rfl
      case restm130 =>
      try simp only [Act.put, List.setIfInBounds_toArray, List.set_cons_zero, List.set_cons_succ]
      refine wpAnyH_take (i := 28) (oi := ?oim131) (v := undef) ?him131 (by kernel_rfl) (by kernel_rfl) (by kernel_rfl) ?hQm131 (Or.inr ⟨?hwm131, rfl⟩) hHeld ?restm131
      case him131 => simp only [List.getElem?_toArray, List.getElem?_cons_succ, List.getElem?_cons_zero]; rfl
      case hQm131 => exact fun _ _ _ h => h
      case hwm131 => rfl
      case restm131 =>
      try simp only [Act.put, List.setIfInBounds_toArray, List.set_cons_zero, List.set_cons_succ]
      refine wpAnyH_take (i := 29) (oi := ?oim132) (v := undef) ?him132 (by kernel_rfl) (by kernel_rfl) (by kernel_rfl) ?hQm132 (Or.inr ⟨?hwm132, rfl⟩) hHeld ?restm132
      case him132 => simp only [List.getElem?_toArray, List.getElem?_cons_succ, List.getElem?_cons_zero]; rfl
      case hQm132 => exact fun _ _ _ h => h
      case hwm132 => rfl
      case restm132 =>
      try simp only [Act.put, List.setIfInBounds_toArray, List.set_cons_zero, List.set_cons_succ]
      refine wpAnyH_take (i := 30) (oi := ?oim133) (v := undef) ?him133 (by kernel_rfl) (by kernel_rfl) (by kernel_rfl) ?hQm133 (Or.inr ⟨?hwm133, rfl⟩) hHeld ?restm133
      case him133 => simp only [List.getElem?_toArray, List.getElem?_cons_succ, List.getElem?_cons_zero]; rfl
      case hQm133 => exact fun _ _ _ h => h
      case hwm133 => rfl
      case restm133 =>
      try simp only [Act.put, List.setIfInBounds_toArray, List.set_cons_zero, List.set_cons_succ]
      refine wpAnyH_take (i := 31) (oi := ?oim134) (v := undef) ?him134 (by kernel_rfl) (by kernel_rfl) (by kernel_rfl) ?hQm134 (Or.inr ⟨?hwm134, rfl⟩) hHeld ?restm134
      case him134 => simp only [List.getElem?_toArray, List.getElem?_cons_succ, List.getElem?_cons_zero]; rfl
      case hQm134 => exact fun _ _ _ h => h
      case hwm134 => rfl
      case restm134 =>
      try simp only [Act.put, List.setIfInBounds_toArray, List.set_cons_zero, List.set_cons_succ]
      refine wpAnyH_take (i := 32) (oi := ?oim135) (v := undef) ?him135 (by kernel_rfl) (by kernel_rfl) (by kernel_rfl) ?hQm135 (Or.inr ⟨?hwm135, rfl⟩) hHeld ?restm135
      case him135 => simp only [List.getElem?_toArray, List.getElem?_cons_succ, List.getElem?_cons_zero]; rfl
      case hQm135 => exact fun _ _ _ h => h
      case hwm135 => rfl
      case restm135 =>
      try simp only [Act.put, List.setIfInBounds_toArray, List.set_cons_zero, List.set_cons_succ]
      refine wpAnyH_take (i := 33) (oi := ?oim136) (v := ?vm136) ?him136 (by kernel_rfl) (by kernel_rfl) (by kernel_rfl) ?hQm136 (Or.inl ⟨?hwm136, ?hym136⟩) hHeld ?restm136
      case him136 => simp only [List.getElem?_toArray, List.getElem?_cons_succ, List.getElem?_cons_zero]; rfl
      case hQm136 => exact fun _ _ _ h => h
      case hwm136 => rfl
      case hym136 => (intro w9 hSw; have k0 := (Ext.cell hSw (p := ⟨b, o + k * 2, none⟩) hb).trans q0; have k1 := (Ext.cell hSw (p := ⟨b, o + k * 2 + 1, none⟩) hb).trans q1; go_simp; (try with_reducible rfl))
      case restm136 =>
      try simp only [Act.put, List.setIfInBounds_toArray, List.set_cons_zero, List.set_cons_succ]
      refine wpAnyH_done (by kernel_rfl) ?_ _
      go_wp2_with fail
      go_ret
      exact ⟨retB HV.out.symm, hHeld⟩
    ·rw [show nameB n = false from by simpa using hn] at N
     have HV : Hid (R = false) := Lib.hid (by
      rw [← hd]
      cases (l.take k).getLast?.map (·.1) <;> (unfold goodGo; rw [show nameB n = false from by simpa using hn]; rfl))
     clear hd hn V
     go_wp2_with fail
     refine wp_region_held_drew (S := Ext w) (by kernel_rfl) (xr.drew) (fun hHeld => ?_)
     refine wpAnyH_take (i := 0) (oi := ?oim137) (v := ?vm137) ?him137 (by kernel_rfl) (by kernel_rfl) (by kernel_rfl) ?hQm137 (Or.inl ⟨?hwm137, ?hym137⟩) hHeld ?restm137
     case him137 => simp only [List.getElem?_toArray, List.getElem?_cons_zero]; rfl
     case hQm137 => exact fun _ _ _ h => h
     case hwm137 => rfl
     case hym137 => (intro w9 hSw; have k0 := (Ext.cell hSw (p := ⟨b, o + k * 2, none⟩) hb).trans q0; have k1 := (Ext.cell hSw (p := ⟨b, o + k * 2 + 1, none⟩) hb).trans q1; go_simp; (try with_reducible rfl))
     case restm137 =>
     try simp only [Act.put, List.setIfInBounds_toArray, List.set_cons_zero, List.set_cons_succ]
     refine wpAnyH_take (i := 1) (oi := ?oim138) (v := ?vm138) ?him138 (by kernel_rfl) (by kernel_rfl) (by kernel_rfl) ?hQm138 (Or.inl ⟨?hwm138, ?hym138⟩) hHeld ?restm138
     case him138 => simp only [List.getElem?_toArray, List.getElem?_cons_succ, List.getElem?_cons_zero]; rfl
     case hQm138 => exact fun _ _ _ h => h
     case hwm138 => rfl
     case hym138 => (intro w9 hSw; have k0 := (Ext.cell hSw (p := ⟨b, o + k * 2, none⟩) hb).trans q0; have k1 := (Ext.cell hSw (p := ⟨b, o + k * 2 + 1, none⟩) hb).trans q1; go_simp; (try with_reducible rfl))
     case restm138 =>
     try simp only [Act.put, List.setIfInBounds_toArray, List.set_cons_zero, List.set_cons_succ]
     refine wpAnyH_take (i := 2) (oi := ?oim139) (v := ?vm139) ?him139 (by kernel_rfl) (by kernel_rfl) (by kernel_rfl) ?hQm139 (Or.inl ⟨?hwm139, ?hym139⟩) hHeld ?restm139
     case him139 => simp only [List.getElem?_toArray, List.getElem?_cons_succ, List.getElem?_cons_zero]; rfl
     case hQm139 => exact fun _ _ _ h => h
     case hwm139 => rfl
     case hym139 => (intro w9 hSw; have k0 := (Ext.cell hSw (p := ⟨b, o + k * 2, none⟩) hb).trans q0; have k1 := (Ext.cell hSw (p := ⟨b, o + k * 2 + 1, none⟩) hb).trans q1; go_simp; (try with_reducible rfl))
     case restm139 =>
     try simp only [Act.put, List.setIfInBounds_toArray, List.set_cons_zero, List.set_cons_succ]
     refine wpAnyH_take (i := 3) (oi := ?oim140) (v := ?vm140) ?him140 (by kernel_rfl) (by kernel_rfl) (by kernel_rfl) ?hQm140 (Or.inl ⟨?hwm140, ?hym140⟩) hHeld ?restm140
     case him140 => simp only [List.getElem?_toArray, List.getElem?_cons_succ, List.getElem?_cons_zero]; rfl
     case hQm140 => exact fun _ _ _ h => h
     case hwm140 => rfl
     case hym140 => (intro w9 hSw; have k0 := (Ext.cell hSw (p := ⟨b, o + k * 2, none⟩) hb).trans q0; have k1 := (Ext.cell hSw (p := ⟨b, o + k * 2 + 1, none⟩) hb).trans q1; go_simp; (try with_reducible rfl))
     case restm140 =>
     try simp only [Act.put, List.setIfInBounds_toArray, List.set_cons_zero, List.set_cons_succ]
     refine wpAnyH_take (i := 4) (oi := ?oim141) (v := ?vm141) ?him141 (by kernel_rfl) (by kernel_rfl) (by kernel_rfl) ?hQm141 (Or.inl ⟨?hwm141, ?hym141⟩) hHeld ?restm141
     case him141 => simp only [List.getElem?_toArray, List.getElem?_cons_succ, List.getElem?_cons_zero]; rfl
     case hQm141 => exact fun _ _ _ h => h
     case hwm141 => rfl
     case hym141 => (intro w9 hSw; have k0 := (Ext.cell hSw (p := ⟨b, o + k * 2, none⟩) hb).trans q0; have k1 := (Ext.cell hSw (p := ⟨b, o + k * 2 + 1, none⟩) hb).trans q1; go_simp; (try with_reducible rfl))
     case restm141 =>
     try simp only [Act.put, List.setIfInBounds_toArray, List.set_cons_zero, List.set_cons_succ]
     refine wpAnyH_ready (rs := [5]) (by kernel_rfl) (by simp) (AllReadyH.cons (o := ?om142) ?im142 (fun K hK => ?_) AllReadyH.nil)
     case im142 => simp only [List.getElem?_toArray, List.getElem?_cons_succ, List.getElem?_cons_zero]; rfl
     rw [if_pos (by rfl)]
     go_simp
     go_at_call 65
     (with_reducible refine (N _).mono ?_)
     rintro e wz ⟨rfl, xz⟩
     refine hK.out _ _ (Ext.trans hHeld xz) (fun hHeld => ?_)
     clear hK K
     try simp only [List.setIfInBounds_toArray, List.set_cons_zero, List.set_cons_succ]
     refine wpAnyH_take (i := 6) (oi := ?oim143) (v := ?vm143) ?him143 (by kernel_rfl) (by kernel_rfl) (by kernel_rfl) ?hQm143 (Or.inl ⟨?hwm143, ?hym143⟩) hHeld ?restm143
     case him143 => simp only [List.getElem?_toArray, List.getElem?_cons_succ, List.getElem?_cons_zero]; rfl
     case hQm143 => exact fun _ _ _ h => h
     case hwm143 => rfl
     case hym143 => (intro w9 hSw; have k0 := (Ext.cell hSw (p := ⟨b, o + k * 2, none⟩) hb).trans q0; have k1 := (Ext.cell hSw (p := ⟨b, o + k * 2 + 1, none⟩) hb).trans q1; go_simp; (try with_reducible rfl))
     case restm143 =>
     try simp only [Act.put, List.setIfInBounds_toArray, List.set_cons_zero, List.set_cons_succ]
     refine wpAnyH_take (i := 7) (oi := ?oim144) (v := ?vm144) ?him144 (by kernel_rfl) (by kernel_rfl) (by kernel_rfl) ?hQm144 (Or.inl ⟨?hwm144, ?hym144⟩) hHeld ?restm144
     case him144 => simp only [List.getElem?_toArray, List.getElem?_cons_succ, List.getElem?_cons_zero]; rfl
     case hQm144 => exact fun _ _ _ h => h
     case hwm144 => rfl
     case hym144 => (intro w9 hSw; have k0 := (Ext.cell hSw (p := ⟨b, o + k * 2, none⟩) hb).trans q0; have k1 := (Ext.cell hSw (p := ⟨b, o + k * 2 + 1, none⟩) hb).trans q1; go_simp; (try with_reducible rfl))
     case restm144 =>
     try simp only [Act.put, List.setIfInBounds_toArray, List.set_cons_zero, List.set_cons_succ]
     refine wpAnyH_take (i := 8) (oi := ?oim145) (v := undef) ?him145 (by kernel_rfl) (by kernel_rfl) (by kernel_rfl) ?hQm145 (Or.inr ⟨?hwm145, rfl⟩) hHeld ?restm145
     case him145 => simp only [List.getElem?_toArray, List.getElem?_cons_succ, List.getElem?_cons_zero]; rfl
     case hQm145 => exact fun _ _ _ h => h
     case hwm145 => rfl
     case restm145 =>
     try simp only [Act.put, List.setIfInBounds_toArray, List.set_cons_zero, List.set_cons_succ]
     refine wpAnyH_take (i := 9) (oi := ?oim146) (v := undef) ?him146 (by kernel_rfl) (by kernel_rfl) (by kernel_rfl) ?hQm146 (Or.inr ⟨?hwm146, rfl⟩) hHeld ?restm146
     case him146 => simp only [List.getElem?_toArray, List.getElem?_cons_succ, List.getElem?_cons_zero]; rfl
     case hQm146 => exact fun _ _ _ h => h
     case hwm146 => rfl
     case restm146 =>
     try simp only [Act.put, List.setIfInBounds_toArray, List.set_cons_zero, List.set_cons_succ]
     refine wpAnyH_take (i := 10) (oi := ?oim147) (v := undef) ?him147 (by kernel_rfl) (by kernel_rfl) (by kernel_rfl) ?hQm147 (Or.inr ⟨?hwm147, rfl⟩) hHeld ?restm147
     case him147 => simp only [List.getElem?_toArray, List.getElem?_cons_succ, List.getElem?_cons_zero]; rfl
     case hQm147 => exact fun _ _ _ h => h
     case hwm147 => rfl
     case restm147 =>
     try simp only [Act.put, List.setIfInBounds_toArray, List.set_cons_zero, List.set_cons_succ]
     refine wpAnyH_take (i := 11) (oi := ?oim148) (v := undef) ?him148 (by kernel_rfl) (by kernel_rfl) (by kernel_rfl) ?hQm148 (Or.inr ⟨?hwm148, rfl⟩) hHeld ?restm148
     case him148 => simp only [List.getElem?_toArray, List.getElem?_cons_succ, List.getElem?_cons_zero]; rfl
     case hQm148 => exact fun _ _ _ h => h
     case hwm148 => rfl
     case restm148 =>
     try simp only [Act.put, List.setIfInBounds_toArray, List.set_cons_zero, List.set_cons_succ]
     refine wpAnyH_take (i := 12) (oi := ?oim149) (v := undef) ?him149 (by kernel_rfl) (by kernel_rfl) (by kernel_rfl) ?hQm149 (Or.inr ⟨?hwm149, rfl⟩) hHeld ?restm149
     case him149 => simp only [List.getElem?_toArray, List.getElem?_cons_succ, List.getElem?_cons_zero]; rfl
     case hQm149 => exact fun _ _ _ h => h
     case hwm149 => rfl
     case restm149 =>
     try simp only [Act.put, List.setIfInBounds_toArray, List.set_cons_zero, List.set_cons_succ]
     refine wpAnyH_take (i := 13) (oi := ?oim150) (v := undef) ?him150 (by kernel_rfl) (by kernel_rfl) (by kernel_rfl) ?hQm150 (Or.inr ⟨?hwm150, rfl⟩) hHeld ?restm150
     case him150 => simp only [List.getElem?_toArray, List.getElem?_cons_succ, List.getElem?_cons_zero]; rfl
     case hQm150 => exact fun _ _ _ h => h
     case hwm150 => rfl
     case restm150 =>
     try simp only [Act.put, List.setIfInBounds_toArray, List.set_cons_zero, List.set_cons_succ]
     refine wpAnyH_take (i := 14) (oi := ?oim151) (v := undef) ?him151 (by kernel_rfl) (by kernel_rfl) (by kernel_rfl) ?hQm151 (Or.inr ⟨?hwm151, rfl⟩) hHeld ?restm151
     case him151 => simp only [List.getElem?_toArray, List.getElem?_cons_succ, List.getElem?_cons_zero]; rfl
     case hQm151 => exact fun _ _ _ h => h
     case hwm151 => rfl
     case restm151 =>
     try simp only [Act.put, List.setIfInBounds_toArray, List.set_cons_zero, List.set_cons_succ]
     refine wpAnyH_take (i := 15) (oi := ?oim152) (v := ?vm152) ?him152 (by kernel_rfl) (by kernel_rfl) (by kernel_rfl) ?hQm152 (Or.inl ⟨?hwm152, ?hym152⟩) hHeld ?restm152
     case him152 => simp only [List.getElem?_toArray, List.getElem?_cons_succ, List.getElem?_cons_zero]; rfl
     case hQm152 => exact fun _ _ _ h => h
     case hwm152 => rfl
     case hym152 => (intro w9 hSw; have k0 := (Ext.cell hSw (p := ⟨b, o + k * 2, none⟩) hb).trans q0; have k1 := (Ext.cell hSw (p := ⟨b, o + k * 2 + 1, none⟩) hb).trans q1; go_simp; (try with_reducible rfl))
     case restm152 =>
     try simp only [Act.put, List.setIfInBounds_toArray, List.set_cons_zero, List.set_cons_succ]
     refine wpAnyH_take (i := 16) (oi := ?oim153) (v := ?vm153) ?him153 (by kernel_rfl) (by kernel_rfl) (by kernel_rfl) ?hQm153 (Or.inl ⟨?hwm153, ?hym153⟩) hHeld ?restm153
     case him153 => simp only [List.getElem?_toArray, List.getElem?_cons_succ, List.getElem?_cons_zero]; rfl
     case hQm153 => exact fun _ _ _ h => h
     case hwm153 => rfl
     case hym153 => (intro w9 hSw; have k0 := (Ext.cell hSw (p := ⟨b, o + k * 2, none⟩) hb).trans q0; have k1 := (Ext.cell hSw (p := ⟨b, o + k * 2 + 1, none⟩) hb).trans q1; go_simp; (try with_reducible rfl))
     case restm153 =>
     try simp only [Act.put, List.setIfInBounds_toArray, List.set_cons_zero, List.set_cons_succ]
     refine wpAnyH_take (i := 17) (oi := ?oim154) (v := undef) ?him154 (by kernel_rfl) (by kernel_rfl) (by kernel_rfl) ?hQm154 (Or.inr ⟨?hwm154, rfl⟩) hHeld ?restm154
     case him154 => simp only [List.getElem?_toArray, List.getElem?_cons_succ, List.getElem?_cons_zero]; rfl
     case hQm154 => exact fun _ _ _ h => h
     case hwm154 => rfl
     case restm154 =>
     try simp only [Act.put, List.setIfInBounds_toArray, List.set_cons_zero, List.set_cons_succ]
     refine wpAnyH_take (i := 18) (oi := ?oim155) (v := undef) ?him155 (by kernel_rfl) (by kernel_rfl) (by kernel_rfl) ?hQm155 (Or.inr ⟨?hwm155, rfl⟩) hHeld ?restm155
     case him155 => simp only [List.getElem?_toArray, List.getElem?_cons_succ, List.getElem?_cons_zero]; rfl
     case hQm155 => exact fun _ _ _ h => h
     case hwm155 => rfl
     case restm155 =>
     try simp only [Act.put, List.setIfInBounds_toArray, List.set_cons_zero, List.set_cons_succ]
     refine wpAnyH_take (i := 19) (oi := ?oim156) (v := undef) ?him156 (by kernel_rfl) (by kernel_rfl) (by kernel_rfl) ?hQm156 (Or.inr ⟨?hwm156, rfl⟩) hHeld ?restm156
     case him156 => simp only [List.getElem?_toArray, List.getElem?_cons_succ, List.getElem?_cons_zero]; rfl
     case hQm156 => exact fun _ _ _ h => h
     case hwm156 => rfl
     case restm156 =>
     try simp only [Act.put, List.setIfInBounds_toArray, List.set_cons_zero, List.set_cons_succ]
     refine wpAnyH_take (i := 20) (oi := ?oim157) (v := undef) ?him157 (by kernel_rfl) (by kernel_rfl) (by kernel_rfl) ?hQm157 (Or.inr ⟨?hwm157, rfl⟩) hHeld ?restm157
     case him157 => simp only [List.getElem?_toArray, List.getElem?_cons_succ, List.getElem?_cons_zero]; rfl
     case hQm157 => exact fun _ _ _ h => h
     case hwm157 => rfl
     case restm157 =>
     try simp only [Act.put, List.setIfInBounds_toArray, List.set_cons_zero, List.set_cons_succ]
     refine wpAnyH_take (i := 21) (oi := ?oim158) (v := undef) ?him158 (by kernel_rfl) (by kernel_rfl) (by kernel_rfl) ?hQm158 (Or.inr ⟨?hwm158, rfl⟩) hHeld ?restm158
     case him158 => simp only [List.getElem?_toArray, List.getElem?_cons_succ, List.getElem?_cons_zero]; rfl
     case hQm158 => exact fun _ _ _ h => h
     case hwm158 => rfl
     case restm158 =>
     try simp only [Act.put, List.setIfInBounds_toArray, List.set_cons_zero, List.set_cons_succ]
     refine wpAnyH_take (i := 22) (oi := ?oim159) (v := undef) ?him159 (by kernel_rfl) (by kernel_rfl) (by kernel_rfl) ?hQm159 (Or.inr ⟨?hwm159, rfl⟩) hHeld ?restm159
     case him159 => simp only [List.getElem?_toArray, List.getElem?_cons_succ, List.getElem?_cons_zero]; rfl
     case hQm159 => exact fun _ _ _ h => h
     case hwm159 => rfl
     case restm159 =>
     try simp only [Act.put, List.setIfInBounds_toArray, List.set_cons_zero, List.set_cons_succ]
     refine wpAnyH_take (i := 23) (oi := ?oim160) (v := undef) ?him160 (by kernel_rfl) (by kernel_rfl) (by kernel_rfl) ?hQm160 (Or.inr ⟨?hwm160, rfl⟩) hHeld ?restm160
     case him160 => simp only [List.getElem?_toArray, List.getElem?_cons_succ, List.getElem?_cons_zero]; rfl
     case hQm160 => exact fun _ _ _ h => h
     case hwm160 => rfl
     case restm160 =>
     try simp only [Act.put, List.setIfInBounds_toArray, List.set_cons_zero, List.set_cons_succ]
     refine wpAnyH_take (i := 24) (oi := ?oim161) (v := undef) ?him161 (by kernel_rfl) (by kernel_rfl) (by kernel_rfl) ?hQm161 (Or.inr ⟨?hwm161, rfl⟩) hHeld ?restm161
     case him161 => simp only [List.getElem?_toArray, List.getElem?_cons_succ, List.getElem?_cons_zero]; rfl
     case hQm161 => exact fun _ _ _ h => h
     case hwm161 => rfl
     case restm161 =>
     try simp only [Act.put, List.setIfInBounds_toArray, List.set_cons_zero, List.set_cons_succ]
     refine wpAnyH_take (i := 25) (oi := ?oim162) (v := undef) ?him162 (by kernel_rfl) (by kernel_rfl) (by kernel_rfl) ?hQm162 (Or.inr ⟨?hwm162, rfl⟩) hHeld ?restm162
     case him162 => simp only [List.getElem?_toArray, List.getElem?_cons_succ, List.getElem?_cons_zero]; rfl
     case hQm162 => exact fun _ _ _ h => h
     case hwm162 => rfl
     case restm162 =>
     try simp only [Act.put, List.setIfInBounds_toArray, List.set_cons_zero, List.set_cons_succ]
     refine wpAnyH_take (i := 26) (oi := ?oim163) (v := undef) ?him163 (by kernel_rfl) (by kernel_rfl) (by kernel_rfl) ?hQm163 (Or.inr ⟨?hwm163, rfl⟩) hHeld ?restm163
     case him163 => simp only [List.getElem?_toArray, List.getElem?_cons_succ, List.getElem?_cons_zero]; rfl
     case hQm163 => exact fun _ _ _ h => h
     case hwm163 => rfl
     case restm163 =>
     try simp only [Act.put, List.setIfInBounds_toArray, List.set_cons_zero, List.set_cons_succ]
     refine wpAnyH_take (i := 27) (oi := ?oim164) (v := undef) ?him164 (by kernel_rfl) (by kernel_rfl) (by kernel_rfl) ?hQm164 (Or.inr ⟨?hwm164, rfl⟩) hHeld ?restm164
     case him164 => simp only [List.getElem?_toArray, List.getElem?_cons_succ, List.getElem?_cons_zero]; rfl
     case hQm164 => exact fun _ _ _ h => h
     case hwm164 => rfl
     case restm164 =>
     try simp only [Act.put, List.setIfInBounds_toArray, List.set_cons_zero, List.set_cons_succ]
     refine wpAnyH_take (i := 28) (oi := ?oim165) (v := undef) ?him165 (by kernel_rfl) (by kernel_rfl) (by kernel_rfl) ?hQm165 (Or.inr ⟨?hwm165, rfl⟩) hHeld ?restm165
     case him165 => simp only [List.getElem?_toArray, List.getElem?_cons_succ, List.getElem?_cons_zero]; rfl
     case hQm165 => exact fun _ _ _ h => h
     case hwm165 => rfl
     case restm165 =>
     try simp only [Act.put, List.setIfInBounds_toArray, List.set_cons_zero, List.set_cons_succ]
     refine wpAnyH_take (i := 29) (oi := ?oim166) (v := undef) ?him166 (by kernel_rfl) (by kernel_rfl) (by kernel_rfl) ?hQm166 (Or.inr ⟨?hwm166, rfl⟩) hHeld ?restm166
     case him166 => simp only [List.getElem?_toArray, List.getElem?_cons_succ, List.getElem?_cons_zero]; rfl
     case hQm166 => exact fun _ _ _ h => h
     case hwm166 => rfl
     case restm166 =>
     try simp only [Act.put, List.setIfInBounds_toArray, List.set_cons_zero, List.set_cons_succ]
     refine wpAnyH_take (i := 30) (oi := ?oim167) (v := undef) ?him167 (by kernel_rfl) (by kernel_rfl) (by kernel_rfl) ?hQm167 (Or.inr ⟨?hwm167, rfl⟩) hHeld ?restm167
     case him167 => simp only [List.getElem?_toArray, List.getElem?_cons_succ, List.getElem?_cons_zero]; rfl
     case hQm167 => exact fun _ _ _ h => h
     case hwm167 => rfl
     case restm167 =>
     try simp only [Act.put, List.setIfInBounds_toArray, List.set_cons_zero, List.set_cons_succ]
     refine wpAnyH_take (i := 31) (oi := ?oim168) (v := undef) ?him168 (by kernel_rfl) (by kernel_rfl) (by kernel_rfl) ?hQm168 (Or.inr ⟨?hwm168, rfl⟩) hHeld ?restm168
     case him168 => simp only [List.getElem?_toArray, List.getElem?_cons_succ, List.getElem?_cons_zero]; rfl
     case hQm168 => exact fun _ _ _ h => h
     case hwm168 => rfl
     case restm168 =>
     try simp only [Act.put, List.setIfInBounds_toArray, List.set_cons_zero, List.set_cons_succ]
     refine wpAnyH_take (i := 32) (oi := ?oim169) (v := undef) ?him169 (by kernel_rfl) (by kernel_rfl) (by kernel_rfl) ?hQm169 (Or.inr ⟨?hwm169, rfl⟩) hHeld ?restm169
     case him169 => simp only [List.getElem?_toArray, List.getElem?_cons_succ, List.getElem?_cons_zero]; rfl
     case hQm169 => exact fun _ _ _ h => h
     case hwm169 => rfl
     case restm169 =>
     try simp only [Act.put, List.setIfInBounds_toArray, List.set_cons_zero, List.set_cons_succ]
     refine wpAnyH_take (i := 33) (oi := ?oim170) (v := ?vm170) ?him170 (by kernel_rfl) (by kernel_rfl) (by kernel_rfl) ?hQm170 (Or.inl ⟨?hwm170, ?hym170⟩) hHeld ?restm170
     case him170 => simp only [List.getElem?_toArray, List.getElem?_cons_succ, List.getElem?_cons_zero]; rfl
     case hQm170 => exact fun _ _ _ h => h
     case hwm170 => rfl
     case hym170 => (intro w9 hSw; have k0 := (Ext.cell hSw (p := ⟨b, o + k * 2, none⟩) hb).trans q0; have k1 := (Ext.cell hSw (p := ⟨b, o + k * 2 + 1, none⟩) hb).trans q1; go_simp; (try with_reducible rfl))
     case restm170 =>
     try simp only [Act.put, List.setIfInBounds_toArray, List.set_cons_zero, List.set_cons_succ]
     refine wpAnyH_done (by kernel_rfl) ?_ _
     go_wp2_with fail
     go_ret
     exact ⟨retB HV.out.symm, hHeld⟩
   ·have hd := hg.out
    rw [show l.drop k = [] from List.drop_eq_nil_of_le (by omega)] at hd
    have h0 : goodGo ((l.take k).getLast?.map (·.1)) [] = true := by cases (l.take k).getLast?.map (·.1) <;> rfl
    rw [h0] at hd
    have hk3 : l.length ≤ k := by omega
    replace hd := Lib.hid hd
    clear hk hg h0 hA
    go_wp2_with fail
    go_ret
    exact ⟨retB hd.out, xr⟩
 ·rw [decide_eq_false h8, Bool.and_false] at hR
  have HV := Lib.hid hR
  clear hR hA hz
  go_enter Tryz.func99, Tryz.ntmps99
  go_wp2_with fail
  go_ret
  exact ⟨retB HV.out, Ext.refl _⟩
end Go.Proofs.YtjjnmefihdjglaaGreat
