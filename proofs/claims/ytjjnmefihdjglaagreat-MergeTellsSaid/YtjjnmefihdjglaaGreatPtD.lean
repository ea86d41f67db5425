import Derived.Test.YtjjnmefihdjglaaGreatKB
import Derived.Test.YtjjnmefihdjglaaGreatKA
set_option maxRecDepth 100000
set_option maxHeartbeats 64000000
set_option linter.all false
namespace Go.Proofs.YtjjnmefihdjglaaGreat
open Go.RowKit
def plainL : List Nat → Bool
 | [] => true
 | c :: l => decide (32 ≤ c) && (decide (c ≠ 127) && plainL l)
theorem plainL_cons (c : Nat) (l : List Nat) : plainL (c :: l) = (decide (32 ≤ c) && (decide (c ≠ 127) && plainL l)) := rfl
def nameB (s : ByteArray) : Bool := plainL (bs s) && (decide (0 < s.size) && (decide (s.size ≤ 60) && decide (badL (bs s) < 0)))
def valueB (s : ByteArray) : Bool := decide (s.size ≤ 60) && decide (badL (bs s) < 0)
theorem Value_any (s : ByteArray) (w : World) (hs : s.size ≤ 9223372036854775807) :
  Calls Tryz.prog 77 #[.string s] w fun e w' => e = .returned (.bool (valueB s)) ∧ Ext w w' := by
 have B := fun w => Bad_any s w hs
 obtain ⟨b,hb⟩ : ∃ b,badL (bs s) = b := ⟨_,rfl⟩
 rw [hb] at B
 by_cases h60 : s.size ≤ 60
 ·have HV : Hid (valueB s = decide (b < 0)) := Lib.hid (by unfold valueB; rw [decide_eq_true h60,Bool.true_and,hb])
  clear hb
  go_enter Tryz.func77,Tryz.ntmps77
  go_wp2_with fail
  (with_reducible refine (B _).mono ?_)
  rintro e w1 ⟨rfl,x1⟩
  go_wp2_with fail
  go_ret
  exact ⟨retB HV.out.symm,x1⟩
 ·have HV : Hid (valueB s = false) := Lib.hid (by unfold valueB; rw [decide_eq_false h60,Bool.false_and])
  clear hb
  go_enter Tryz.func77,Tryz.ntmps77
  go_wp2_with fail
  go_ret
  exact ⟨retB HV.out.symm,Ext.refl _⟩
theorem isEmpty_of (s : ByteArray) : s.toList.isEmpty = decide (s.size = 0) := by
 rw [ByteArray.toList_eq]
 have h : s.data.toList.length = s.size := by rw [Array.length_toList]; rfl
 rw [← h]
 cases s.data.toList <;> simp
theorem Name_any (s : ByteArray) (w : World) (hs : s.size ≤ 9223372036854775807) :
  Calls Tryz.prog 75 #[.string s] w fun e w' => e = .returned (.bool (nameB s)) ∧ Ext w w' := by
 have B := fun w => Bad_any s w hs
 obtain ⟨b,hb⟩ : ∃ b,badL (bs s) = b := ⟨_,rfl⟩
 rw [hb] at B
 obtain ⟨R,hR⟩ : ∃ R,nameB s = R := ⟨_,rfl⟩
 rw [hR]
 unfold nameB at hR
 rw [hb] at hR
 clear hb
 replace hR := Lib.hid hR
 go_enter Tryz.func75,Tryz.ntmps75
 go_wp2_with fail
 go_loopw [6] (fun i wr => ∃ k : Nat,i = .int .i64 k ∧ k ≤ s.size ∧ Hid (plainL ((bs s).drop k) = plainL (bs s)) ∧ wr = w) (fun i _ => s.size - (intOf i).toNat)
 case atStart => exact ⟨0,rfl,Nat.zero_le _,Lib.hid rfl,rfl⟩
 case round =>
  obtain ⟨k,rfl,hk,hz,rfl⟩ := hrel
  by_cases hlt : k < s.size
  ·have hd := hz.out
   rw [drop_bs s k hlt] at hd
   rw [plainL_cons] at hd
   clear hz
   by_cases h1 : 32 ≤ s[k].toNat
   ·rw [decide_eq_true h1,Bool.true_and] at hd
    by_cases h2 : s[k].toNat = 127
    ·rw [decide_eq_false (by omega),Bool.false_and] at hd
     have e2 : ((s[k].toNat : Int) == 127) = true := by rw [h2]; rfl
     have HV : Hid (R = false) := Lib.hid (by rw [← hR.out,← hd,Bool.false_and])
     clear hR hd h2
     go_wp2_with fail
     go_ret
     exact ⟨retB HV.out.symm,Ext.refl _⟩
    ·rw [decide_eq_true h2,Bool.true_and] at hd
     have e2 : ((s[k].toNat : Int) == 127) = false := by simp; omega
     replace hd := Lib.hid hd
     clear h2
     go_wp2_with fail
     go_roundw
     case rel => exact ⟨k + 1,rfl,hlt,hd,by first | trivial | rfl⟩
     case measure => simp only [intOf]; omega
   ·rw [decide_eq_false h1,Bool.false_and] at hd
    have HV : Hid (R = false) := Lib.hid (by rw [← hR.out,← hd,Bool.false_and])
    clear hR hd
    have h3 : (s[k].toNat : Int) < 32 := by omega
    go_wp2_with fail
    go_ret
    exact ⟨retB HV.out.symm,Ext.refl _⟩
  ·have hd := hz.out
   rw [drop_bs_nil s k (by omega)] at hd
   have hr := hR.out
   rw [← hd] at hr
   rw [show plainL [] = true from rfl,Bool.true_and] at hr
   clear hR hd hz
   have hk2 : s.size ≤ k := by omega
   by_cases h0 : 0 < s.size
   ·rw [decide_eq_true h0,Bool.true_and] at hr
    have e0 : s.toList.isEmpty = false := by rw [isEmpty_of,decide_eq_false (by omega)]
    by_cases h60 : s.size ≤ 60
    ·rw [decide_eq_true h60,Bool.true_and] at hr
     replace hr := Lib.hid hr
     clear hk hlt
     go_wp2_with fail
     (with_reducible refine (B _).mono ?_)
     rintro e w1 ⟨rfl,x1⟩
     go_wp2_with fail
     go_ret
     exact ⟨retB hr.out,x1⟩
    ·rw [decide_eq_false h60,Bool.false_and] at hr
     replace hr := Lib.hid hr
     clear hk hlt
     go_wp2_with fail
     go_ret
     exact ⟨retB hr.out,Ext.refl _⟩
   ·rw [decide_eq_false h0,Bool.false_and] at hr
    have e0 : s.toList.isEmpty = true := by rw [isEmpty_of,decide_eq_true (by omega)]
    replace hr := Lib.hid hr
    clear hk hlt h0
    go_wp2_with fail
    go_ret
    exact ⟨retB hr.out,Ext.refl _⟩
def geS (a b : ByteArray) : Bool := decide (0 ≤ cmpS a b)
def goodGo : Option ByteArray → List (ByteArray × ByteArray) → Bool
 | _,[] => true
 | none,x :: l => nameB x.1 && (valueB x.2 && goodGo (some x.1) l)
 | some p,x :: l => nameB x.1 && (valueB x.2 && (!(geS p x.1) && goodGo (some x.1) l))
def goodLs (l : List (ByteArray × ByteArray)) : Bool := goodGo none l && decide (l.length ≤ 8)
theorem take_last (l : List (ByteArray × ByteArray)) (k : Nat) (h : k < l.length) : (l.take (k + 1)).getLast?.map (·.1) = some l[k].1 := by
 rw [List.take_succ_eq_append_getElem h,List.getLast?_concat]; rfl
-- GEN
theorem bytesLess_is : ∀ (a b : List UInt8),Op.bytesLess a b = decide (Lib.compareBytes a b < 0)
 | [],[] => rfl
 | [],_ :: _ => rfl
 | _ :: _,[] => rfl
 | x :: l,y :: m => by
   unfold Op.bytesLess Lib.compareBytes
   by_cases h : x < y
   ·rw [if_pos h]; simp [h]
   ·rw [if_neg h]
    by_cases h2 : y < x
    ·rw [if_pos h2]
     have : ¬ x = y := fun e => by subst e; exact h h2
     simp [h,this]
    ·rw [if_neg h2,← bytesLess_is l m]
     have : x = y := UInt8.le_antisymm (UInt8.not_lt.1 h2) (UInt8.not_lt.1 h)
     simp [this]
theorem less_is (a b : ByteArray) : Op.bytesLess a.toList b.toList = decide (cmpS a b < 0) := by
 rw [ByteArray.toList_eq,ByteArray.toList_eq,bytesLess_is]; rfl
def Lab1 (w : World) (b : Nat) (n v : ByteArray) (W : World) : Prop := Ext w W ∧ LabIn b n v W
theorem Lab1.ext {w : World} {b : Nat} {n v : ByteArray} {W W' : World} (h : Lab1 w b n v W) (x : Ext W W') : Lab1 w b n v W' := ⟨h.1.trans x,h.2.ext x⟩
theorem labGood_any (a : Option Addr) (c : Nat) (l : List (ByteArray × ByteArray)) (w : World) (hl : (l.length : Int) ≤ 9223372036854775807) (hA : LabA a l w) (hz : ∀ x ∈ l,x.1.size ≤ 9223372036854775807 ∧ x.2.size ≤ 9223372036854775807) :
  Calls Tryz.prog 110 #[.slice a l.length c] w fun e w' => e = .returned (.bool (goodLs l)) ∧ Ext w w' := by
 obtain ⟨R,hR⟩ : ∃ R,goodLs l = R := ⟨_,rfl⟩
 rw [hR]
 unfold goodLs at hR
 replace hR := Lib.hid hR
 go_enter Tryz.func110,Tryz.ntmps110
 go_wp2_with fail
 go_loopw [7] (fun i wr => ∃ k : Nat,i = .int .i64 k ∧ k ≤ l.length ∧ Hid (goodGo ((l.take k).getLast?.map (·.1)) (l.drop k) = goodGo none l) ∧ Ext w wr) (fun i _ => l.length - (intOf i).toNat)
 case atStart => exact ⟨0,rfl,Nat.zero_le _,Lib.hid rfl,Ext.refl _⟩
 case round =>
  obtain ⟨k,rfl,hk,hg,xr⟩ := hrel
  by_cases hlt : k < l.length
  ·have hd := hg.out
   rw [List.drop_eq_getElem_cons hlt] at hd
   obtain ⟨b,o,rfl,hb,hL⟩ := hA (by omega)
   obtain ⟨q0,q1⟩ := hL k hlt
   obtain ⟨z1,z2⟩ := hz l[k] (List.getElem_mem hlt)
   have r0 := (xr.cell (p := ⟨b,o + k * 2,none⟩) hb).trans q0
   have r1 := (xr.cell (p := ⟨b,o + k * 2 + 1,none⟩) hb).trans q1
   clear q0 q1 hg
   have htl := take_last l k hlt
   obtain ⟨n,v,hx⟩ : ∃ n v,l[k] = (n,v) := ⟨_,_,rfl⟩
   rw [hx] at hd r0 r1 z1 z2 htl
   dsimp only at r0 r1 z1 z2 htl
   have N := fun w => Name_any n w z1
   have V := fun w => Value_any v w z2
   have kb := Nat.lt_of_lt_of_le hb xr.size
   have hJ0 : Lab1 w wr.heap.size n v (wr.alloc (.cells #[.string n,.string v] 69)) := ⟨xr.alloc _,heap_last _ _⟩
   by_cases hn : nameB n = true
   ·rw [hn] at N
    by_cases hv : valueB v = true
    ·rw [hv] at V
     cases k with
     | zero =>
       rw [Nat.zero_mul,Nat.add_zero] at r0 r1
       have hd2 : goodGo (some n) (l.drop 1) = goodGo none l := by
        rw [← hd]
        show _ = goodGo none ((n,v) :: l.drop 1)
        unfold goodGo
        rw [hn,hv,Bool.true_and,Bool.true_and]
        cases l.drop 1 <;> rfl
       replace hd2 := Lib.hid hd2
       clear hd hn hv
       go_wp2_with fail
       refine wp_region_held_drew (S := Lab1 w wr.heap.size n v) (by kernel_rfl) (hJ0.ext (Ext.refl _).drew) (fun hH => ?_)
       refine tk 0 rfl (by kernel_rfl) (fun _ _ _ h => h) rfl (fun w9 hS9 => by obtain ⟨k0,k1⟩ := hS9.2.cells; go_simp; (try rfl)) hH ?_
       try simp only [Act.put,aT,aZ,aS]
       refine tk 1 rfl (by kernel_rfl) (fun _ _ _ h => h) rfl (fun w9 hS9 => by obtain ⟨k0,k1⟩ := hS9.2.cells; go_simp; (try rfl)) hH ?_
       try simp only [Act.put,aT,aZ,aS]
       refine wR (rs := [2]) (by kernel_rfl) (by simp) (aR rfl (fun K hK => ?_) aN)
       rw [if_pos (by rfl)]
       go_simp
       go_at_call 75
       (with_reducible refine (N _).mono ?_)
       rintro e wz ⟨rfl,xz⟩
       refine hK.out _ _ (hH.ext xz) (fun hH => ?_)
       clear hK K
       try simp only [aT,aZ,aS]
       refine tk 3 rfl (by kernel_rfl) (fun _ _ _ h => h) rfl (fun w9 hS9 => by obtain ⟨k0,k1⟩ := hS9.2.cells; go_simp; (try rfl)) hH ?_
       try simp only [Act.put,aT,aZ,aS]
       refine tk 4 rfl (by kernel_rfl) (fun _ _ _ h => h) rfl (fun w9 hS9 => by obtain ⟨k0,k1⟩ := hS9.2.cells; go_simp; (try rfl)) hH ?_
       try simp only [Act.put,aT,aZ,aS]
       refine tk 5 rfl (by kernel_rfl) (fun _ _ _ h => h) rfl (fun w9 hS9 => by obtain ⟨k0,k1⟩ := hS9.2.cells; go_simp; (try rfl)) hH ?_
       try simp only [Act.put,aT,aZ,aS]
       refine tk 6 rfl (by kernel_rfl) (fun _ _ _ h => h) rfl (fun w9 hS9 => by obtain ⟨k0,k1⟩ := hS9.2.cells; go_simp; (try rfl)) hH ?_
       try simp only [Act.put,aT,aZ,aS]
       refine wR (rs := [7]) (by kernel_rfl) (by simp) (aR rfl (fun K hK => ?_) aN)
       rw [if_pos (by rfl)]
       go_simp
       go_at_call 77
       (with_reducible refine (V _).mono ?_)
       rintro e wz ⟨rfl,xz⟩
       refine hK.out _ _ (hH.ext xz) (fun hH => ?_)
       clear hK K
       try simp only [aT,aZ,aS]
       refine tk 8 rfl (by kernel_rfl) (fun _ _ _ h => h) rfl (fun w9 hS9 => by obtain ⟨k0,k1⟩ := hS9.2.cells; go_simp; (try rfl)) hH ?_
       try simp only [Act.put,aT,aZ,aS]
       refine tk 9 rfl (by kernel_rfl) (fun _ _ _ h => h) rfl (fun w9 hS9 => by obtain ⟨k0,k1⟩ := hS9.2.cells; go_simp; (try rfl)) hH ?_
       try simp only [Act.put,aT,aZ,aS]
       refine tk 10 rfl (by kernel_rfl) (fun _ _ _ h => h) rfl (fun w9 hS9 => by obtain ⟨k0,k1⟩ := hS9.2.cells; go_simp; (try rfl)) hH ?_
       try simp only [Act.put,aT,aZ,aS]
       refine tk 11 rfl (by kernel_rfl) (fun _ _ _ h => h) rfl (fun w9 hS9 => by obtain ⟨k0,k1⟩ := hS9.2.cells; go_simp; (try rfl)) hH ?_
       try simp only [Act.put,aT,aZ,aS]
       refine tk 12 rfl (by kernel_rfl) (fun _ _ _ h => h) rfl (fun w9 hS9 => by obtain ⟨k0,k1⟩ := hS9.2.cells; go_simp; (try rfl)) hH ?_
       try simp only [Act.put,aT,aZ,aS]
       refine tk 13 rfl (by kernel_rfl) (fun _ _ _ h => h) rfl (fun w9 hS9 => by obtain ⟨k0,k1⟩ := hS9.2.cells; go_simp; (try rfl)) hH ?_
       try simp only [Act.put,aT,aZ,aS]
       refine tk0 14 rfl (by kernel_rfl) (fun _ _ _ h => h) rfl hH ?_
       try simp only [Act.put,aT,aZ,aS]
       refine tk0 15 rfl (by kernel_rfl) (fun _ _ _ h => h) rfl hH ?_
       try simp only [Act.put,aT,aZ,aS]
       refine tk0 16 rfl (by kernel_rfl) (fun _ _ _ h => h) rfl hH ?_
       try simp only [Act.put,aT,aZ,aS]
       refine tk0 17 rfl (by kernel_rfl) (fun _ _ _ h => h) rfl hH ?_
       try simp only [Act.put,aT,aZ,aS]
       refine tk0 18 rfl (by kernel_rfl) (fun _ _ _ h => h) rfl hH ?_
       try simp only [Act.put,aT,aZ,aS]
       refine tk0 19 rfl (by kernel_rfl) (fun _ _ _ h => h) rfl hH ?_
       try simp only [Act.put,aT,aZ,aS]
       refine tk0 20 rfl (by kernel_rfl) (fun _ _ _ h => h) rfl hH ?_
       try simp only [Act.put,aT,aZ,aS]
       refine tk0 21 rfl (by kernel_rfl) (fun _ _ _ h => h) rfl hH ?_
       try simp only [Act.put,aT,aZ,aS]
       refine tk0 22 rfl (by kernel_rfl) (fun _ _ _ h => h) rfl hH ?_
       try simp only [Act.put,aT,aZ,aS]
       refine tk 23 rfl (by kernel_rfl) (fun _ _ _ h => h) rfl (fun w9 hS9 => by obtain ⟨k0,k1⟩ := hS9.2.cells; go_simp; (try rfl)) hH ?_
       try simp only [Act.put,aT,aZ,aS]
       refine tk 24 rfl (by kernel_rfl) (fun _ _ _ h => h) rfl (fun w9 hS9 => by obtain ⟨k0,k1⟩ := hS9.2.cells; go_simp; (try rfl)) hH ?_
       try simp only [Act.put,aT,aZ,aS]
       refine wpAnyH_done (by kernel_rfl) ?_ _
       have xf := hH.1
       go_wp2_with fail
       go_roundw
       case rel => exact ⟨1,rfl,hlt,Lib.hid (by rw [htl]; exact hd2.out),xf⟩
       case measure => simp only [intOf]; omega
     | succ k =>
       have hp := take_last l k (by omega)
       have hp0 := (hL k (by omega)).1
       obtain ⟨p,hpe⟩ : ∃ p,(l[k]'(by omega)).1 = p := ⟨_,rfl⟩
       rw [hpe] at hp hp0
       rw [hp] at hd
       have e1 : IntKind.i64.wrap (k : Int) = (k : Int) := IntWalk.i64_in _ (by omega)
       have e2 : (k : Int) < (l.length : Int) := by omega
       have hd1 : (!(geS p n) && goodGo (some n) (l.drop (k + 1 + 1))) = goodGo none l := by
        rw [← hd]
        show _ = (nameB n && (valueB v && (!(geS p n) && goodGo (some n) (l.drop (k + 1 + 1)))))
        rw [hn,hv,Bool.true_and,Bool.true_and]
       clear hd hn hv
       by_cases hge : geS p n = true
       ·rw [hge] at hd1
        have nl : Op.bytesLess p.toList n.toList = false := by
         rw [less_is,decide_eq_false]
         unfold geS at hge
         simp only [decide_eq_true_eq] at hge
         omega
        have HV : Hid (R = false) := Lib.hid (by rw [← hR.out,← hd1]; rfl)
        clear hR hd1 hge
        go_wp2_with fail
        refine wp_region_held_drew (S := Lab1 w wr.heap.size n v) (by kernel_rfl) (hJ0.ext (Ext.refl _).drew) (fun hH => ?_)
        refine tk 0 rfl (by kernel_rfl) (fun _ _ _ h => h) rfl (fun w9 hS9 => by obtain ⟨k0,k1⟩ := hS9.2.cells; have k2 := (hS9.1.cell (p := ⟨b,o + k * 2,none⟩) hb).trans hp0; go_simp; (try rfl)) hH ?_
        try simp only [Act.put,aT,aZ,aS]
        refine tk 1 rfl (by kernel_rfl) (fun _ _ _ h => h) rfl (fun w9 hS9 => by obtain ⟨k0,k1⟩ := hS9.2.cells; have k2 := (hS9.1.cell (p := ⟨b,o + k * 2,none⟩) hb).trans hp0; go_simp; (try rfl)) hH ?_
        try simp only [Act.put,aT,aZ,aS]
        refine wR (rs := [2]) (by kernel_rfl) (by simp) (aR rfl (fun K hK => ?_) aN)
        rw [if_pos (by rfl)]
        go_simp
        go_at_call 75
        (with_reducible refine (N _).mono ?_)
        rintro e wz ⟨rfl,xz⟩
        refine hK.out _ _ (hH.ext xz) (fun hH => ?_)
        clear hK K
        try simp only [aT,aZ,aS]
        refine tk 3 rfl (by kernel_rfl) (fun _ _ _ h => h) rfl (fun w9 hS9 => by obtain ⟨k0,k1⟩ := hS9.2.cells; have k2 := (hS9.1.cell (p := ⟨b,o + k * 2,none⟩) hb).trans hp0; go_simp; (try rfl)) hH ?_
        try simp only [Act.put,aT,aZ,aS]
        refine tk 4 rfl (by kernel_rfl) (fun _ _ _ h => h) rfl (fun w9 hS9 => by obtain ⟨k0,k1⟩ := hS9.2.cells; have k2 := (hS9.1.cell (p := ⟨b,o + k * 2,none⟩) hb).trans hp0; go_simp; (try rfl)) hH ?_
        try simp only [Act.put,aT,aZ,aS]
        refine tk 5 rfl (by kernel_rfl) (fun _ _ _ h => h) rfl (fun w9 hS9 => by obtain ⟨k0,k1⟩ := hS9.2.cells; have k2 := (hS9.1.cell (p := ⟨b,o + k * 2,none⟩) hb).trans hp0; go_simp; (try rfl)) hH ?_
        try simp only [Act.put,aT,aZ,aS]
        refine tk 6 rfl (by kernel_rfl) (fun _ _ _ h => h) rfl (fun w9 hS9 => by obtain ⟨k0,k1⟩ := hS9.2.cells; have k2 := (hS9.1.cell (p := ⟨b,o + k * 2,none⟩) hb).trans hp0; go_simp; (try rfl)) hH ?_
        try simp only [Act.put,aT,aZ,aS]
        refine wR (rs := [7]) (by kernel_rfl) (by simp) (aR rfl (fun K hK => ?_) aN)
        rw [if_pos (by rfl)]
        go_simp
        go_at_call 77
        (with_reducible refine (V _).mono ?_)
        rintro e wz ⟨rfl,xz⟩
        refine hK.out _ _ (hH.ext xz) (fun hH => ?_)
        clear hK K
        try simp only [aT,aZ,aS]
        refine tk 8 rfl (by kernel_rfl) (fun _ _ _ h => h) rfl (fun w9 hS9 => by obtain ⟨k0,k1⟩ := hS9.2.cells; have k2 := (hS9.1.cell (p := ⟨b,o + k * 2,none⟩) hb).trans hp0; go_simp; (try rfl)) hH ?_
        try simp only [Act.put,aT,aZ,aS]
        refine tk 9 rfl (by kernel_rfl) (fun _ _ _ h => h) rfl (fun w9 hS9 => by obtain ⟨k0,k1⟩ := hS9.2.cells; have k2 := (hS9.1.cell (p := ⟨b,o + k * 2,none⟩) hb).trans hp0; go_simp; (try rfl)) hH ?_
        try simp only [Act.put,aT,aZ,aS]
        refine tk 10 rfl (by kernel_rfl) (fun _ _ _ h => h) rfl (fun w9 hS9 => by obtain ⟨k0,k1⟩ := hS9.2.cells; have k2 := (hS9.1.cell (p := ⟨b,o + k * 2,none⟩) hb).trans hp0; go_simp; (try rfl)) hH ?_
        try simp only [Act.put,aT,aZ,aS]
        refine tk 11 rfl (by kernel_rfl) (fun _ _ _ h => h) rfl (fun w9 hS9 => by obtain ⟨k0,k1⟩ := hS9.2.cells; have k2 := (hS9.1.cell (p := ⟨b,o + k * 2,none⟩) hb).trans hp0; go_simp; (try rfl)) hH ?_
        try simp only [Act.put,aT,aZ,aS]
        refine tk 12 rfl (by kernel_rfl) (fun _ _ _ h => h) rfl (fun w9 hS9 => by obtain ⟨k0,k1⟩ := hS9.2.cells; have k2 := (hS9.1.cell (p := ⟨b,o + k * 2,none⟩) hb).trans hp0; go_simp; (try rfl)) hH ?_
        try simp only [Act.put,aT,aZ,aS]
        refine tk 13 rfl (by kernel_rfl) (fun _ _ _ h => h) rfl (fun w9 hS9 => by obtain ⟨k0,k1⟩ := hS9.2.cells; have k2 := (hS9.1.cell (p := ⟨b,o + k * 2,none⟩) hb).trans hp0; go_simp; (try rfl)) hH ?_
        try simp only [Act.put,aT,aZ,aS]
        refine tk 14 rfl (by kernel_rfl) (fun _ _ _ h => h) rfl (fun w9 hS9 => by obtain ⟨k0,k1⟩ := hS9.2.cells; have k2 := (hS9.1.cell (p := ⟨b,o + k * 2,none⟩) hb).trans hp0; go_simp; (try rfl)) hH ?_
        try simp only [Act.put,aT,aZ,aS]
        refine tk 15 rfl (by kernel_rfl) (fun _ _ _ h => h) rfl (fun w9 hS9 => by obtain ⟨k0,k1⟩ := hS9.2.cells; have k2 := (hS9.1.cell (p := ⟨b,o + k * 2,none⟩) hb).trans hp0; go_simp; (try rfl)) hH ?_
        try simp only [Act.put,aT,aZ,aS]
        refine tk 16 rfl (by kernel_rfl) (fun _ _ _ h => h) rfl (fun w9 hS9 => by obtain ⟨k0,k1⟩ := hS9.2.cells; have k2 := (hS9.1.cell (p := ⟨b,o + k * 2,none⟩) hb).trans hp0; go_simp; (try rfl)) hH ?_
        try simp only [Act.put,aT,aZ,aS]
        refine tk 17 rfl (by kernel_rfl) (fun _ _ _ h => h) rfl (fun w9 hS9 => by obtain ⟨k0,k1⟩ := hS9.2.cells; have k2 := (hS9.1.cell (p := ⟨b,o + k * 2,none⟩) hb).trans hp0; go_simp; (try rfl)) hH ?_
        try simp only [Act.put,aT,aZ,aS]
        refine tk 18 rfl (by kernel_rfl) (fun _ _ _ h => h) rfl (fun w9 hS9 => by obtain ⟨k0,k1⟩ := hS9.2.cells; have k2 := (hS9.1.cell (p := ⟨b,o + k * 2,none⟩) hb).trans hp0; go_simp; (try rfl)) hH ?_
        try simp only [Act.put,aT,aZ,aS]
        refine tk 19 rfl (by kernel_rfl) (fun _ _ _ h => h) rfl (fun w9 hS9 => by obtain ⟨k0,k1⟩ := hS9.2.cells; have k2 := (hS9.1.cell (p := ⟨b,o + k * 2,none⟩) hb).trans hp0; go_simp; (try rfl)) hH ?_
        try simp only [Act.put,aT,aZ,aS]
        refine tk 20 rfl (by kernel_rfl) (fun _ _ _ h => h) rfl (fun w9 hS9 => by obtain ⟨k0,k1⟩ := hS9.2.cells; have k2 := (hS9.1.cell (p := ⟨b,o + k * 2,none⟩) hb).trans hp0; go_simp; (try rfl)) hH ?_
        try simp only [Act.put,aT,aZ,aS]
        refine tk 21 rfl (by kernel_rfl) (fun _ _ _ h => h) rfl (fun w9 hS9 => by obtain ⟨k0,k1⟩ := hS9.2.cells; have k2 := (hS9.1.cell (p := ⟨b,o + k * 2,none⟩) hb).trans hp0; go_simp; (try rfl)) hH ?_
        try simp only [Act.put,aT,aZ,aS]
        refine tk 22 rfl (by kernel_rfl) (fun _ _ _ h => h) rfl (fun w9 hS9 => by obtain ⟨k0,k1⟩ := hS9.2.cells; have k2 := (hS9.1.cell (p := ⟨b,o + k * 2,none⟩) hb).trans hp0; go_simp; (try rfl)) hH ?_
        try simp only [Act.put,aT,aZ,aS]
        refine tk 23 rfl (by kernel_rfl) (fun _ _ _ h => h) rfl (fun w9 hS9 => by obtain ⟨k0,k1⟩ := hS9.2.cells; have k2 := (hS9.1.cell (p := ⟨b,o + k * 2,none⟩) hb).trans hp0; go_simp; (try rfl)) hH ?_
        try simp only [Act.put,aT,aZ,aS]
        refine tk 24 rfl (by kernel_rfl) (fun _ _ _ h => h) rfl (fun w9 hS9 => by obtain ⟨k0,k1⟩ := hS9.2.cells; have k2 := (hS9.1.cell (p := ⟨b,o + k * 2,none⟩) hb).trans hp0; go_simp; (try rfl)) hH ?_
        try simp only [Act.put,aT,aZ,aS]
        refine wpAnyH_done (by kernel_rfl) ?_ _
        have xf := hH.1
        go_wp2_with fail
        go_ret
        exact ⟨retB HV.out.symm,xf⟩
       ·rw [show geS p n = false from by simpa using hge] at hd1
        have nl : Op.bytesLess p.toList n.toList = true := by
         rw [less_is,decide_eq_true]
         unfold geS at hge
         simp only [decide_eq_true_eq] at hge
         omega
        replace hd1 := Lib.hid hd1
        clear hge
        go_wp2_with fail
        refine wp_region_held_drew (S := Lab1 w wr.heap.size n v) (by kernel_rfl) (hJ0.ext (Ext.refl _).drew) (fun hH => ?_)
        refine tk 0 rfl (by kernel_rfl) (fun _ _ _ h => h) rfl (fun w9 hS9 => by obtain ⟨k0,k1⟩ := hS9.2.cells; have k2 := (hS9.1.cell (p := ⟨b,o + k * 2,none⟩) hb).trans hp0; go_simp; (try rfl)) hH ?_
        try simp only [Act.put,aT,aZ,aS]
        refine tk 1 rfl (by kernel_rfl) (fun _ _ _ h => h) rfl (fun w9 hS9 => by obtain ⟨k0,k1⟩ := hS9.2.cells; have k2 := (hS9.1.cell (p := ⟨b,o + k * 2,none⟩) hb).trans hp0; go_simp; (try rfl)) hH ?_
        try simp only [Act.put,aT,aZ,aS]
        refine wR (rs := [2]) (by kernel_rfl) (by simp) (aR rfl (fun K hK => ?_) aN)
        rw [if_pos (by rfl)]
        go_simp
        go_at_call 75
        (with_reducible refine (N _).mono ?_)
        rintro e wz ⟨rfl,xz⟩
        refine hK.out _ _ (hH.ext xz) (fun hH => ?_)
        clear hK K
        try simp only [aT,aZ,aS]
        refine tk 3 rfl (by kernel_rfl) (fun _ _ _ h => h) rfl (fun w9 hS9 => by obtain ⟨k0,k1⟩ := hS9.2.cells; have k2 := (hS9.1.cell (p := ⟨b,o + k * 2,none⟩) hb).trans hp0; go_simp; (try rfl)) hH ?_
        try simp only [Act.put,aT,aZ,aS]
        refine tk 4 rfl (by kernel_rfl) (fun _ _ _ h => h) rfl (fun w9 hS9 => by obtain ⟨k0,k1⟩ := hS9.2.cells; have k2 := (hS9.1.cell (p := ⟨b,o + k * 2,none⟩) hb).trans hp0; go_simp; (try rfl)) hH ?_
        try simp only [Act.put,aT,aZ,aS]
        refine tk 5 rfl (by kernel_rfl) (fun _ _ _ h => h) rfl (fun w9 hS9 => by obtain ⟨k0,k1⟩ := hS9.2.cells; have k2 := (hS9.1.cell (p := ⟨b,o + k * 2,none⟩) hb).trans hp0; go_simp; (try rfl)) hH ?_
        try simp only [Act.put,aT,aZ,aS]
        refine tk 6 rfl (by kernel_rfl) (fun _ _ _ h => h) rfl (fun w9 hS9 => by obtain ⟨k0,k1⟩ := hS9.2.cells; have k2 := (hS9.1.cell (p := ⟨b,o + k * 2,none⟩) hb).trans hp0; go_simp; (try rfl)) hH ?_
        try simp only [Act.put,aT,aZ,aS]
        refine wR (rs := [7]) (by kernel_rfl) (by simp) (aR rfl (fun K hK => ?_) aN)
        rw [if_pos (by rfl)]
        go_simp
        go_at_call 77
        (with_reducible refine (V _).mono ?_)
        rintro e wz ⟨rfl,xz⟩
        refine hK.out _ _ (hH.ext xz) (fun hH => ?_)
        clear hK K
        try simp only [aT,aZ,aS]
        refine tk 8 rfl (by kernel_rfl) (fun _ _ _ h => h) rfl (fun w9 hS9 => by obtain ⟨k0,k1⟩ := hS9.2.cells; have k2 := (hS9.1.cell (p := ⟨b,o + k * 2,none⟩) hb).trans hp0; go_simp; (try rfl)) hH ?_
        try simp only [Act.put,aT,aZ,aS]
        refine tk 9 rfl (by kernel_rfl) (fun _ _ _ h => h) rfl (fun w9 hS9 => by obtain ⟨k0,k1⟩ := hS9.2.cells; have k2 := (hS9.1.cell (p := ⟨b,o + k * 2,none⟩) hb).trans hp0; go_simp; (try rfl)) hH ?_
        try simp only [Act.put,aT,aZ,aS]
        refine tk 10 rfl (by kernel_rfl) (fun _ _ _ h => h) rfl (fun w9 hS9 => by obtain ⟨k0,k1⟩ := hS9.2.cells; have k2 := (hS9.1.cell (p := ⟨b,o + k * 2,none⟩) hb).trans hp0; go_simp; (try rfl)) hH ?_
        try simp only [Act.put,aT,aZ,aS]
        refine tk 11 rfl (by kernel_rfl) (fun _ _ _ h => h) rfl (fun w9 hS9 => by obtain ⟨k0,k1⟩ := hS9.2.cells; have k2 := (hS9.1.cell (p := ⟨b,o + k * 2,none⟩) hb).trans hp0; go_simp; (try rfl)) hH ?_
        try simp only [Act.put,aT,aZ,aS]
        refine tk 12 rfl (by kernel_rfl) (fun _ _ _ h => h) rfl (fun w9 hS9 => by obtain ⟨k0,k1⟩ := hS9.2.cells; have k2 := (hS9.1.cell (p := ⟨b,o + k * 2,none⟩) hb).trans hp0; go_simp; (try rfl)) hH ?_
        try simp only [Act.put,aT,aZ,aS]
        refine tk 13 rfl (by kernel_rfl) (fun _ _ _ h => h) rfl (fun w9 hS9 => by obtain ⟨k0,k1⟩ := hS9.2.cells; have k2 := (hS9.1.cell (p := ⟨b,o + k * 2,none⟩) hb).trans hp0; go_simp; (try rfl)) hH ?_
        try simp only [Act.put,aT,aZ,aS]
        refine tk 14 rfl (by kernel_rfl) (fun _ _ _ h => h) rfl (fun w9 hS9 => by obtain ⟨k0,k1⟩ := hS9.2.cells; have k2 := (hS9.1.cell (p := ⟨b,o + k * 2,none⟩) hb).trans hp0; go_simp; (try rfl)) hH ?_
        try simp only [Act.put,aT,aZ,aS]
        refine tk 15 rfl (by kernel_rfl) (fun _ _ _ h => h) rfl (fun w9 hS9 => by obtain ⟨k0,k1⟩ := hS9.2.cells; have k2 := (hS9.1.cell (p := ⟨b,o + k * 2,none⟩) hb).trans hp0; go_simp; (try rfl)) hH ?_
        try simp only [Act.put,aT,aZ,aS]
        refine tk 16 rfl (by kernel_rfl) (fun _ _ _ h => h) rfl (fun w9 hS9 => by obtain ⟨k0,k1⟩ := hS9.2.cells; have k2 := (hS9.1.cell (p := ⟨b,o + k * 2,none⟩) hb).trans hp0; go_simp; (try rfl)) hH ?_
        try simp only [Act.put,aT,aZ,aS]
        refine tk 17 rfl (by kernel_rfl) (fun _ _ _ h => h) rfl (fun w9 hS9 => by obtain ⟨k0,k1⟩ := hS9.2.cells; have k2 := (hS9.1.cell (p := ⟨b,o + k * 2,none⟩) hb).trans hp0; go_simp; (try rfl)) hH ?_
        try simp only [Act.put,aT,aZ,aS]
        refine tk 18 rfl (by kernel_rfl) (fun _ _ _ h => h) rfl (fun w9 hS9 => by obtain ⟨k0,k1⟩ := hS9.2.cells; have k2 := (hS9.1.cell (p := ⟨b,o + k * 2,none⟩) hb).trans hp0; go_simp; (try rfl)) hH ?_
        try simp only [Act.put,aT,aZ,aS]
        refine tk 19 rfl (by kernel_rfl) (fun _ _ _ h => h) rfl (fun w9 hS9 => by obtain ⟨k0,k1⟩ := hS9.2.cells; have k2 := (hS9.1.cell (p := ⟨b,o + k * 2,none⟩) hb).trans hp0; go_simp; (try rfl)) hH ?_
        try simp only [Act.put,aT,aZ,aS]
        refine tk 20 rfl (by kernel_rfl) (fun _ _ _ h => h) rfl (fun w9 hS9 => by obtain ⟨k0,k1⟩ := hS9.2.cells; have k2 := (hS9.1.cell (p := ⟨b,o + k * 2,none⟩) hb).trans hp0; go_simp; (try rfl)) hH ?_
        try simp only [Act.put,aT,aZ,aS]
        refine tk 21 rfl (by kernel_rfl) (fun _ _ _ h => h) rfl (fun w9 hS9 => by obtain ⟨k0,k1⟩ := hS9.2.cells; have k2 := (hS9.1.cell (p := ⟨b,o + k * 2,none⟩) hb).trans hp0; go_simp; (try rfl)) hH ?_
        try simp only [Act.put,aT,aZ,aS]
        refine tk 22 rfl (by kernel_rfl) (fun _ _ _ h => h) rfl (fun w9 hS9 => by obtain ⟨k0,k1⟩ := hS9.2.cells; have k2 := (hS9.1.cell (p := ⟨b,o + k * 2,none⟩) hb).trans hp0; go_simp; (try rfl)) hH ?_
        try simp only [Act.put,aT,aZ,aS]
        refine tk 23 rfl (by kernel_rfl) (fun _ _ _ h => h) rfl (fun w9 hS9 => by obtain ⟨k0,k1⟩ := hS9.2.cells; have k2 := (hS9.1.cell (p := ⟨b,o + k * 2,none⟩) hb).trans hp0; go_simp; (try rfl)) hH ?_
        try simp only [Act.put,aT,aZ,aS]
        refine tk 24 rfl (by kernel_rfl) (fun _ _ _ h => h) rfl (fun w9 hS9 => by obtain ⟨k0,k1⟩ := hS9.2.cells; have k2 := (hS9.1.cell (p := ⟨b,o + k * 2,none⟩) hb).trans hp0; go_simp; (try rfl)) hH ?_
        try simp only [Act.put,aT,aZ,aS]
        refine wpAnyH_done (by kernel_rfl) ?_ _
        have xf := hH.1
        go_wp2_with fail
        go_roundw
        case rel => exact ⟨k + 1 + 1,rfl,hlt,Lib.hid (by rw [htl]; exact hd1.out),xf⟩
        case measure => simp only [intOf]; omega
    ·rw [show valueB v = false from by simpa using hv] at V
     have HV : Hid (R = false) := Lib.hid (by
      rw [← hR.out,← hd]
      cases (l.take k).getLast?.map (·.1) <;> (unfold goodGo; rw [hn,show valueB v = false from by simpa using hv]; rfl))
     clear hR hd hn hv
     go_wp2_with fail
     refine wp_region_held_drew (S := Lab1 w wr.heap.size n v) (by kernel_rfl) (hJ0.ext (Ext.refl _).drew) (fun hH => ?_)
     refine tk 0 rfl (by kernel_rfl) (fun _ _ _ h => h) rfl (fun w9 hS9 => by obtain ⟨k0,k1⟩ := hS9.2.cells; go_simp; (try rfl)) hH ?_
     try simp only [Act.put,aT,aZ,aS]
     refine tk 1 rfl (by kernel_rfl) (fun _ _ _ h => h) rfl (fun w9 hS9 => by obtain ⟨k0,k1⟩ := hS9.2.cells; go_simp; (try rfl)) hH ?_
     try simp only [Act.put,aT,aZ,aS]
     refine wR (rs := [2]) (by kernel_rfl) (by simp) (aR rfl (fun K hK => ?_) aN)
     rw [if_pos (by rfl)]
     go_simp
     go_at_call 75
     (with_reducible refine (N _).mono ?_)
     rintro e wz ⟨rfl,xz⟩
     refine hK.out _ _ (hH.ext xz) (fun hH => ?_)
     clear hK K
     try simp only [aT,aZ,aS]
     refine tk 3 rfl (by kernel_rfl) (fun _ _ _ h => h) rfl (fun w9 hS9 => by obtain ⟨k0,k1⟩ := hS9.2.cells; go_simp; (try rfl)) hH ?_
     try simp only [Act.put,aT,aZ,aS]
     refine tk 4 rfl (by kernel_rfl) (fun _ _ _ h => h) rfl (fun w9 hS9 => by obtain ⟨k0,k1⟩ := hS9.2.cells; go_simp; (try rfl)) hH ?_
     try simp only [Act.put,aT,aZ,aS]
     refine tk 5 rfl (by kernel_rfl) (fun _ _ _ h => h) rfl (fun w9 hS9 => by obtain ⟨k0,k1⟩ := hS9.2.cells; go_simp; (try rfl)) hH ?_
     try simp only [Act.put,aT,aZ,aS]
     refine tk 6 rfl (by kernel_rfl) (fun _ _ _ h => h) rfl (fun w9 hS9 => by obtain ⟨k0,k1⟩ := hS9.2.cells; go_simp; (try rfl)) hH ?_
     try simp only [Act.put,aT,aZ,aS]
     refine wR (rs := [7]) (by kernel_rfl) (by simp) (aR rfl (fun K hK => ?_) aN)
     rw [if_pos (by rfl)]
     go_simp
     go_at_call 77
     (with_reducible refine (V _).mono ?_)
     rintro e wz ⟨rfl,xz⟩
     refine hK.out _ _ (hH.ext xz) (fun hH => ?_)
     clear hK K
     try simp only [aT,aZ,aS]
     refine tk 8 rfl (by kernel_rfl) (fun _ _ _ h => h) rfl (fun w9 hS9 => by obtain ⟨k0,k1⟩ := hS9.2.cells; go_simp; (try rfl)) hH ?_
     try simp only [Act.put,aT,aZ,aS]
     refine tk 9 rfl (by kernel_rfl) (fun _ _ _ h => h) rfl (fun w9 hS9 => by obtain ⟨k0,k1⟩ := hS9.2.cells; go_simp; (try rfl)) hH ?_
     try simp only [Act.put,aT,aZ,aS]
     refine tk 10 rfl (by kernel_rfl) (fun _ _ _ h => h) rfl (fun w9 hS9 => by obtain ⟨k0,k1⟩ := hS9.2.cells; go_simp; (try rfl)) hH ?_
     try simp only [Act.put,aT,aZ,aS]
     refine tk0 11 rfl (by kernel_rfl) (fun _ _ _ h => h) rfl hH ?_
     try simp only [Act.put,aT,aZ,aS]
     refine tk0 12 rfl (by kernel_rfl) (fun _ _ _ h => h) rfl hH ?_
     try simp only [Act.put,aT,aZ,aS]
     refine tk0 13 rfl (by kernel_rfl) (fun _ _ _ h => h) rfl hH ?_
     try simp only [Act.put,aT,aZ,aS]
     refine tk0 14 rfl (by kernel_rfl) (fun _ _ _ h => h) rfl hH ?_
     try simp only [Act.put,aT,aZ,aS]
     refine tk0 15 rfl (by kernel_rfl) (fun _ _ _ h => h) rfl hH ?_
     try simp only [Act.put,aT,aZ,aS]
     refine tk0 16 rfl (by kernel_rfl) (fun _ _ _ h => h) rfl hH ?_
     try simp only [Act.put,aT,aZ,aS]
     refine tk0 17 rfl (by kernel_rfl) (fun _ _ _ h => h) rfl hH ?_
     try simp only [Act.put,aT,aZ,aS]
     refine tk0 18 rfl (by kernel_rfl) (fun _ _ _ h => h) rfl hH ?_
     try simp only [Act.put,aT,aZ,aS]
     refine tk0 19 rfl (by kernel_rfl) (fun _ _ _ h => h) rfl hH ?_
     try simp only [Act.put,aT,aZ,aS]
     refine tk0 20 rfl (by kernel_rfl) (fun _ _ _ h => h) rfl hH ?_
     try simp only [Act.put,aT,aZ,aS]
     refine tk0 21 rfl (by kernel_rfl) (fun _ _ _ h => h) rfl hH ?_
     try simp only [Act.put,aT,aZ,aS]
     refine tk0 22 rfl (by kernel_rfl) (fun _ _ _ h => h) rfl hH ?_
     try simp only [Act.put,aT,aZ,aS]
     refine tk0 23 rfl (by kernel_rfl) (fun _ _ _ h => h) rfl hH ?_
     try simp only [Act.put,aT,aZ,aS]
     refine tk 24 rfl (by kernel_rfl) (fun _ _ _ h => h) rfl (fun w9 hS9 => by obtain ⟨k0,k1⟩ := hS9.2.cells; go_simp; (try rfl)) hH ?_
     try simp only [Act.put,aT,aZ,aS]
     refine wpAnyH_done (by kernel_rfl) ?_ _
     have xf := hH.1
     go_wp2_with fail
     go_ret
     exact ⟨retB HV.out.symm,xf⟩
   ·rw [show nameB n = false from by simpa using hn] at N
    have HV : Hid (R = false) := Lib.hid (by
     rw [← hR.out,← hd]
     cases (l.take k).getLast?.map (·.1) <;> (unfold goodGo; rw [show nameB n = false from by simpa using hn]; rfl))
    clear hR hd hn V
    go_wp2_with fail
    refine wp_region_held_drew (S := Lab1 w wr.heap.size n v) (by kernel_rfl) (hJ0.ext (Ext.refl _).drew) (fun hH => ?_)
    refine tk 0 rfl (by kernel_rfl) (fun _ _ _ h => h) rfl (fun w9 hS9 => by obtain ⟨k0,k1⟩ := hS9.2.cells; go_simp; (try rfl)) hH ?_
    try simp only [Act.put,aT,aZ,aS]
    refine tk 1 rfl (by kernel_rfl) (fun _ _ _ h => h) rfl (fun w9 hS9 => by obtain ⟨k0,k1⟩ := hS9.2.cells; go_simp; (try rfl)) hH ?_
    try simp only [Act.put,aT,aZ,aS]
    refine wR (rs := [2]) (by kernel_rfl) (by simp) (aR rfl (fun K hK => ?_) aN)
    rw [if_pos (by rfl)]
    go_simp
    go_at_call 75
    (with_reducible refine (N _).mono ?_)
    rintro e wz ⟨rfl,xz⟩
    refine hK.out _ _ (hH.ext xz) (fun hH => ?_)
    clear hK K
    try simp only [aT,aZ,aS]
    refine tk 3 rfl (by kernel_rfl) (fun _ _ _ h => h) rfl (fun w9 hS9 => by obtain ⟨k0,k1⟩ := hS9.2.cells; go_simp; (try rfl)) hH ?_
    try simp only [Act.put,aT,aZ,aS]
    refine tk 4 rfl (by kernel_rfl) (fun _ _ _ h => h) rfl (fun w9 hS9 => by obtain ⟨k0,k1⟩ := hS9.2.cells; go_simp; (try rfl)) hH ?_
    try simp only [Act.put,aT,aZ,aS]
    refine tk0 5 rfl (by kernel_rfl) (fun _ _ _ h => h) rfl hH ?_
    try simp only [Act.put,aT,aZ,aS]
    refine tk0 6 rfl (by kernel_rfl) (fun _ _ _ h => h) rfl hH ?_
    try simp only [Act.put,aT,aZ,aS]
    refine tk0 7 rfl (by kernel_rfl) (fun _ _ _ h => h) rfl hH ?_
    try simp only [Act.put,aT,aZ,aS]
    refine tk0 8 rfl (by kernel_rfl) (fun _ _ _ h => h) rfl hH ?_
    try simp only [Act.put,aT,aZ,aS]
    refine tk 9 rfl (by kernel_rfl) (fun _ _ _ h => h) rfl (fun w9 hS9 => by obtain ⟨k0,k1⟩ := hS9.2.cells; go_simp; (try rfl)) hH ?_
    try simp only [Act.put,aT,aZ,aS]
    refine tk 10 rfl (by kernel_rfl) (fun _ _ _ h => h) rfl (fun w9 hS9 => by obtain ⟨k0,k1⟩ := hS9.2.cells; go_simp; (try rfl)) hH ?_
    try simp only [Act.put,aT,aZ,aS]
    refine tk0 11 rfl (by kernel_rfl) (fun _ _ _ h => h) rfl hH ?_
    try simp only [Act.put,aT,aZ,aS]
    refine tk0 12 rfl (by kernel_rfl) (fun _ _ _ h => h) rfl hH ?_
    try simp only [Act.put,aT,aZ,aS]
    refine tk0 13 rfl (by kernel_rfl) (fun _ _ _ h => h) rfl hH ?_
    try simp only [Act.put,aT,aZ,aS]
    refine tk0 14 rfl (by kernel_rfl) (fun _ _ _ h => h) rfl hH ?_
    try simp only [Act.put,aT,aZ,aS]
    refine tk0 15 rfl (by kernel_rfl) (fun _ _ _ h => h) rfl hH ?_
    try simp only [Act.put,aT,aZ,aS]
    refine tk0 16 rfl (by kernel_rfl) (fun _ _ _ h => h) rfl hH ?_
    try simp only [Act.put,aT,aZ,aS]
    refine tk0 17 rfl (by kernel_rfl) (fun _ _ _ h => h) rfl hH ?_
    try simp only [Act.put,aT,aZ,aS]
    refine tk0 18 rfl (by kernel_rfl) (fun _ _ _ h => h) rfl hH ?_
    try simp only [Act.put,aT,aZ,aS]
    refine tk0 19 rfl (by kernel_rfl) (fun _ _ _ h => h) rfl hH ?_
    try simp only [Act.put,aT,aZ,aS]
    refine tk0 20 rfl (by kernel_rfl) (fun _ _ _ h => h) rfl hH ?_
    try simp only [Act.put,aT,aZ,aS]
    refine tk0 21 rfl (by kernel_rfl) (fun _ _ _ h => h) rfl hH ?_
    try simp only [Act.put,aT,aZ,aS]
    refine tk0 22 rfl (by kernel_rfl) (fun _ _ _ h => h) rfl hH ?_
    try simp only [Act.put,aT,aZ,aS]
    refine tk0 23 rfl (by kernel_rfl) (fun _ _ _ h => h) rfl hH ?_
    try simp only [Act.put,aT,aZ,aS]
    refine tk 24 rfl (by kernel_rfl) (fun _ _ _ h => h) rfl (fun w9 hS9 => by obtain ⟨k0,k1⟩ := hS9.2.cells; go_simp; (try rfl)) hH ?_
    try simp only [Act.put,aT,aZ,aS]
    refine wpAnyH_done (by kernel_rfl) ?_ _
    have xf := hH.1
    go_wp2_with fail
    go_ret
    exact ⟨retB HV.out.symm,xf⟩
  ·have hd := hg.out
   rw [show l.drop k = [] from List.drop_eq_nil_of_le (by omega)] at hd
   have hr := hR.out
   rw [← hd] at hr
   have h0 : goodGo ((l.take k).getLast?.map (·.1)) [] = true := by cases (l.take k).getLast?.map (·.1) <;> rfl
   rw [h0,Bool.true_and] at hr
   have hk3 : l.length ≤ k := by omega
   replace hr := Lib.hid hr
   clear hk hd hg hR h0 hA
   go_wp2_with fail
   go_ret
   exact ⟨retB ((decide_eq_decide.2 (by omega)).trans hr.out),xr⟩
end Go.Proofs.YtjjnmefihdjglaaGreat
