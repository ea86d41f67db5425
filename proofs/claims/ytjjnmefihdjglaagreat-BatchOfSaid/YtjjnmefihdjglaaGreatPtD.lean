import Derived.Test.YtjjnmefihdjglaaGreatGE
import Derived.Test.YtjjnmefihdjglaaGreatGA
namespace Go.Proofs.YtjjnmefihdjglaaGreat
open Go.RowKit
def plainL : List Nat → Bool
 | [] => true
 | c :: l => decide (32 ≤ c) && (decide (c ≠ 127) && plainL l)
theorem plainL_cons (c : Nat) (l : List Nat) : plainL (c :: l) = (decide (32 ≤ c) && (decide (c ≠ 127) && plainL l)) := rfl
def nameB (s : ByteArray) : Bool := plainL (bs s) && (decide (0 < s.size) && (decide (s.size ≤ 60) && decide (badL (bs s) < 0)))
def valueB (s : ByteArray) : Bool := decide (s.size ≤ 60) && decide (badL (bs s) < 0)
set_option maxHeartbeats 1000000 in
set_option maxRecDepth 100000 in
theorem Value_any (s : ByteArray) (w : World) (hs : s.size ≤ 9223372036854775807) :
  Calls Tryz.prog 77 #[.string s] w fun e w' => e = .returned (.bool (valueB s)) ∧ Ext w w' := by
 have B := fun w => Bad_any s w hs
 obtain ⟨b, hb⟩ : ∃ b, badL (bs s) = b := ⟨_, rfl⟩
 rw [hb] at B
 by_cases h60 : s.size ≤ 60
 ·have HV : Hid (valueB s = decide (b < 0)) := Lib.hid (by unfold valueB; rw [decide_eq_true h60, Bool.true_and, hb])
  clear hb
  go_enter Tryz.func77, Tryz.ntmps77
  go_wp2_with fail
  (with_reducible refine (B _).mono ?_)
  rintro e w1 ⟨rfl, x1⟩
  go_wp2_with fail
  go_ret
  exact ⟨retB HV.out.symm, x1⟩
 ·have HV : Hid (valueB s = false) := Lib.hid (by unfold valueB; rw [decide_eq_false h60, Bool.false_and])
  clear hb
  go_enter Tryz.func77, Tryz.ntmps77
  go_wp2_with fail
  go_ret
  exact ⟨retB HV.out.symm, Ext.refl _⟩
theorem isEmpty_of (s : ByteArray) : s.toList.isEmpty = decide (s.size = 0) := by
 rw [ByteArray.toList_eq]
 have h : s.data.toList.length = s.size := by rw [Array.length_toList]; rfl
 rw [← h]
 cases s.data.toList <;> simp
set_option maxHeartbeats 2000000 in
set_option maxRecDepth 100000 in
theorem Name_any (s : ByteArray) (w : World) (hs : s.size ≤ 9223372036854775807) :
  Calls Tryz.prog 75 #[.string s] w fun e w' => e = .returned (.bool (nameB s)) ∧ Ext w w' := by
 have B := fun w => Bad_any s w hs
 obtain ⟨b, hb⟩ : ∃ b, badL (bs s) = b := ⟨_, rfl⟩
 rw [hb] at B
 obtain ⟨R, hR⟩ : ∃ R, nameB s = R := ⟨_, rfl⟩
 rw [hR]
 unfold nameB at hR
 rw [hb] at hR
 clear hb
 replace hR := Lib.hid hR
 go_enter Tryz.func75, Tryz.ntmps75
 go_wp2_with fail
 go_loopw [6] (fun i wr => ∃ k : Nat, i = .int .i64 k ∧ k ≤ s.size ∧ Hid (plainL ((bs s).drop k) = plainL (bs s)) ∧ wr = w) (fun i _ => s.size - (intOf i).toNat)
 case atStart => exact ⟨0, rfl, Nat.zero_le _, Lib.hid rfl, rfl⟩
 case round =>
  obtain ⟨k, rfl, hk, hz, rfl⟩ := hrel
  by_cases hlt : k < s.size
  ·have hd := hz.out
   rw [drop_bs s k hlt] at hd
   rw [plainL_cons] at hd
   clear hz
   by_cases h1 : 32 ≤ s[k].toNat
   ·rw [decide_eq_true h1, Bool.true_and] at hd
    by_cases h2 : s[k].toNat = 127
    ·rw [decide_eq_false (by omega), Bool.false_and] at hd
     have e2 : ((s[k].toNat : Int) == 127) = true := by rw [h2]; rfl
     have HV : Hid (R = false) := Lib.hid (by rw [← hR.out, ← hd, Bool.false_and])
     clear hR hd h2
     go_wp2_with fail
     go_ret
     exact ⟨retB HV.out.symm, Ext.refl _⟩
    ·rw [decide_eq_true h2, Bool.true_and] at hd
     have e2 : ((s[k].toNat : Int) == 127) = false := by simp; omega
     replace hd := Lib.hid hd
     clear h2
     go_wp2_with fail
     go_roundw
     case rel => exact ⟨k + 1, rfl, hlt, hd, by first | trivial | rfl⟩
     case measure => simp only [intOf]; omega
   ·rw [decide_eq_false h1, Bool.false_and] at hd
    have HV : Hid (R = false) := Lib.hid (by rw [← hR.out, ← hd, Bool.false_and])
    clear hR hd
    have h3 : (s[k].toNat : Int) < 32 := by omega
    go_wp2_with fail
    go_ret
    exact ⟨retB HV.out.symm, Ext.refl _⟩
  ·have hd := hz.out
   rw [drop_bs_nil s k (by omega)] at hd
   have hr := hR.out
   rw [← hd] at hr
   rw [show plainL [] = true from rfl, Bool.true_and] at hr
   clear hR hd hz
   have hk2 : s.size ≤ k := by omega
   by_cases h0 : 0 < s.size
   ·rw [decide_eq_true h0, Bool.true_and] at hr
    have e0 : s.toList.isEmpty = false := by rw [isEmpty_of, decide_eq_false (by omega)]
    by_cases h60 : s.size ≤ 60
    ·rw [decide_eq_true h60, Bool.true_and] at hr
     replace hr := Lib.hid hr
     clear hk hlt
     go_wp2_with fail
     (with_reducible refine (B _).mono ?_)
     rintro e w1 ⟨rfl, x1⟩
     go_wp2_with fail
     go_ret
     exact ⟨retB hr.out, x1⟩
    ·rw [decide_eq_false h60, Bool.false_and] at hr
     replace hr := Lib.hid hr
     clear hk hlt
     go_wp2_with fail
     go_ret
     exact ⟨retB hr.out, Ext.refl _⟩
   ·rw [decide_eq_false h0, Bool.false_and] at hr
    have e0 : s.toList.isEmpty = true := by rw [isEmpty_of, decide_eq_true (by omega)]
    replace hr := Lib.hid hr
    clear hk hlt h0
    go_wp2_with fail
    go_ret
    exact ⟨retB hr.out, Ext.refl _⟩
def geS (a b : ByteArray) : Bool := decide (0 ≤ cmpS a b)
def goodGo : Option ByteArray → List (ByteArray × ByteArray) → Bool
 | _, [] => true
 | none, x :: l => nameB x.1 && (valueB x.2 && goodGo (some x.1) l)
 | some p, x :: l => nameB x.1 && (valueB x.2 && (!(geS p x.1) && goodGo (some x.1) l))
def goodLs (l : List (ByteArray × ByteArray)) : Bool := goodGo none l && decide (l.length ≤ 8)
theorem take_last (l : List (ByteArray × ByteArray)) (k : Nat) (h : k < l.length) : (l.take (k + 1)).getLast?.map (·.1) = some l[k].1 := by
 rw [List.take_succ_eq_append_getElem h, List.getLast?_concat]; rfl
-- GEN
theorem bytesLess_is : ∀ (a b : List UInt8), Op.bytesLess a b = decide (Lib.compareBytes a b < 0)
 | [], [] => rfl
 | [], _ :: _ => rfl
 | _ :: _, [] => rfl
 | x :: l, y :: m => by
   unfold Op.bytesLess Lib.compareBytes
   by_cases h : x < y
   ·rw [if_pos h]; simp [h]
   ·rw [if_neg h]
    by_cases h2 : y < x
    ·rw [if_pos h2]
     have : ¬ x = y := fun e => by subst e; exact h h2
     simp [h, this]
    ·rw [if_neg h2, ← bytesLess_is l m]
     have : x = y := UInt8.le_antisymm (UInt8.not_lt.1 h2) (UInt8.not_lt.1 h)
     simp [this]
theorem less_is (a b : ByteArray) : Op.bytesLess a.toList b.toList = decide (cmpS a b < 0) := by
 rw [ByteArray.toList_eq, ByteArray.toList_eq, bytesLess_is]; rfl
def Lab1 (w : World) (b : Nat) (n v : ByteArray) (W : World) : Prop := Ext w W ∧ LabIn b n v W
theorem Lab1.ext {w : World} {b : Nat} {n v : ByteArray} {W W' : World} (h : Lab1 w b n v W) (x : Ext W W') : Lab1 w b n v W' := ⟨h.1.trans x, h.2.ext x⟩
set_option maxHeartbeats 8000000 in
set_option maxRecDepth 100000 in
theorem labGood_any (a : Option Addr) (c : Nat) (l : List (ByteArray × ByteArray)) (w : World) (hl : (l.length : Int) ≤ 9223372036854775807) (hA : LabA a l w) (hz : ∀ x ∈ l, x.1.size ≤ 9223372036854775807 ∧ x.2.size ≤ 9223372036854775807) :
  Calls Tryz.prog 110 #[.slice a l.length c] w fun e w' => e = .returned (.bool (goodLs l)) ∧ Ext w w' := by
 obtain ⟨R, hR⟩ : ∃ R, goodLs l = R := ⟨_, rfl⟩
 rw [hR]
 unfold goodLs at hR
 replace hR := Lib.hid hR
 go_enter Tryz.func110, Tryz.ntmps110
 go_wp2_with fail
 go_loopw [7] (fun i wr => ∃ k : Nat, i = .int .i64 k ∧ k ≤ l.length ∧ Hid (goodGo ((l.take k).getLast?.map (·.1)) (l.drop k) = goodGo none l) ∧ Ext w wr) (fun i _ => l.length - (intOf i).toNat)
 case atStart => exact ⟨0, rfl, Nat.zero_le _, Lib.hid rfl, Ext.refl _⟩
 case round =>
  obtain ⟨k, rfl, hk, hg, xr⟩ := hrel
  by_cases hlt : k < l.length
  ·have hd := hg.out
   rw [List.drop_eq_getElem_cons hlt] at hd
   obtain ⟨b, o, rfl, hb, hL⟩ := hA (by omega)
   obtain ⟨q0, q1⟩ := hL k hlt
   obtain ⟨z1, z2⟩ := hz l[k] (List.getElem_mem hlt)
   have r0 := (xr.cell (p := ⟨b, o + k * 2, none⟩) hb).trans q0
   have r1 := (xr.cell (p := ⟨b, o + k * 2 + 1, none⟩) hb).trans q1
   clear q0 q1 hg
   have htl := take_last l k hlt
   obtain ⟨n, v, hx⟩ : ∃ n v, l[k] = (n, v) := ⟨_, _, rfl⟩
   rw [hx] at hd r0 r1 z1 z2 htl
   dsimp only at r0 r1 z1 z2 htl
   have N := fun w => Name_any n w z1
   have V := fun w => Value_any v w z2
   have kb := Nat.lt_of_lt_of_le hb xr.size
   have hJ0 : Lab1 w wr.heap.size n v (wr.alloc (.cells #[.string n, .string v] 69)) := ⟨xr.alloc _, heap_last _ _⟩
   by_cases hn : nameB n = true
   ·rw [hn] at N
    by_cases hv : valueB v = true
    ·rw [hv] at V
     cases k with
     | zero =>
       rw [Nat.zero_mul, Nat.add_zero] at r0 r1
       have hd2 : goodGo (some n) (l.drop 1) = goodGo none l := by
        rw [← hd]
        show _ = goodGo none ((n, v) :: l.drop 1)
        unfold goodGo
        rw [hn, hv, Bool.true_and, Bool.true_and]
        cases l.drop 1 <;> rfl
       replace hd2 := Lib.hid hd2
       clear hd hn hv
       go_wp2_with fail
       refine wp_region_held_drew (S := Lab1 w wr.heap.size n v) (by kernel_rfl) (hJ0.ext (Ext.refl _).drew) (fun hHeld => ?_)
       refine wpAnyH_take (i := 0) (oi := ?oim1) (v := ?vm1) ?him1 (by kernel_rfl) (by kernel_rfl) (by kernel_rfl) ?hQm1 (Or.inl ⟨?hwm1, ?hym1⟩) hHeld ?restm1
       case him1 => simp only [List.getElem?_toArray, List.getElem?_cons_zero]; rfl
       case hQm1 => exact fun _ _ _ h => h
       case hwm1 => rfl
       case hym1 => (intro w9 hSw; obtain ⟨k0, k1⟩ := hSw.2.cells; go_simp; (try with_reducible rfl))
       case restm1 =>
       try simp only [Act.put, List.setIfInBounds_toArray, List.set_cons_zero, List.set_cons_succ]
       refine wpAnyH_take (i := 1) (oi := ?oim2) (v := ?vm2) ?him2 (by kernel_rfl) (by kernel_rfl) (by kernel_rfl) ?hQm2 (Or.inl ⟨?hwm2, ?hym2⟩) hHeld ?restm2
       case him2 => simp only [List.getElem?_toArray, List.getElem?_cons_succ, List.getElem?_cons_zero]; rfl
       case hQm2 => exact fun _ _ _ h => h
       case hwm2 => rfl
       case hym2 => (intro w9 hSw; obtain ⟨k0, k1⟩ := hSw.2.cells; go_simp; (try with_reducible rfl))
       case restm2 =>
       try simp only [Act.put, List.setIfInBounds_toArray, List.set_cons_zero, List.set_cons_succ]
       refine wpAnyH_ready (rs := [2]) (by kernel_rfl) (by simp) (AllReadyH.cons (o := ?om3) ?im3 (fun K hK => ?_) AllReadyH.nil)
       case im3 => simp only [List.getElem?_toArray, List.getElem?_cons_succ, List.getElem?_cons_zero]; rfl
       rw [if_pos (by rfl)]
       go_simp
       go_at_call 75
       (with_reducible refine (N _).mono ?_)
       rintro e wz ⟨rfl, xz⟩
       refine hK.out _ _ (hHeld.ext xz) (fun hHeld => ?_)
       clear hK K
       try simp only [List.setIfInBounds_toArray, List.set_cons_zero, List.set_cons_succ]
       refine wpAnyH_take (i := 3) (oi := ?oim4) (v := ?vm4) ?him4 (by kernel_rfl) (by kernel_rfl) (by kernel_rfl) ?hQm4 (Or.inl ⟨?hwm4, ?hym4⟩) hHeld ?restm4
       case him4 => simp only [List.getElem?_toArray, List.getElem?_cons_succ, List.getElem?_cons_zero]; rfl
       case hQm4 => exact fun _ _ _ h => h
       case hwm4 => rfl
       case hym4 => (intro w9 hSw; obtain ⟨k0, k1⟩ := hSw.2.cells; go_simp; (try with_reducible rfl))
       case restm4 =>
       try simp only [Act.put, List.setIfInBounds_toArray, List.set_cons_zero, List.set_cons_succ]
       refine wpAnyH_take (i := 4) (oi := ?oim5) (v := ?vm5) ?him5 (by kernel_rfl) (by kernel_rfl) (by kernel_rfl) ?hQm5 (Or.inl ⟨?hwm5, ?hym5⟩) hHeld ?restm5
       case him5 => simp only [List.getElem?_toArray, List.getElem?_cons_succ, List.getElem?_cons_zero]; rfl
       case hQm5 => exact fun _ _ _ h => h
       case hwm5 => rfl
       case hym5 => (intro w9 hSw; obtain ⟨k0, k1⟩ := hSw.2.cells; go_simp; (try with_reducible rfl))
       case restm5 =>
       try simp only [Act.put, List.setIfInBounds_toArray, List.set_cons_zero, List.set_cons_succ]
       refine wpAnyH_take (i := 5) (oi := ?oim6) (v := ?vm6) ?him6 (by kernel_rfl) (by kernel_rfl) (by kernel_rfl) ?hQm6 (Or.inl ⟨?hwm6, ?hym6⟩) hHeld ?restm6
       case him6 => simp only [List.getElem?_toArray, List.getElem?_cons_succ, List.getElem?_cons_zero]; rfl
       case hQm6 => exact fun _ _ _ h => h
       case hwm6 => rfl
       case hym6 => (intro w9 hSw; obtain ⟨k0, k1⟩ := hSw.2.cells; go_simp; (try with_reducible rfl))
       case restm6 =>
       try simp only [Act.put, List.setIfInBounds_toArray, List.set_cons_zero, List.set_cons_succ]
       refine wpAnyH_take (i := 6) (oi := ?oim7) (v := ?vm7) ?him7 (by kernel_rfl) (by kernel_rfl) (by kernel_rfl) ?hQm7 (Or.inl ⟨?hwm7, ?hym7⟩) hHeld ?restm7
       case him7 => simp only [List.getElem?_toArray, List.getElem?_cons_succ, List.getElem?_cons_zero]; rfl
       case hQm7 => exact fun _ _ _ h => h
       case hwm7 => rfl
       case hym7 => (intro w9 hSw; obtain ⟨k0, k1⟩ := hSw.2.cells; go_simp; (try with_reducible rfl))
       case restm7 =>
       try simp only [Act.put, List.setIfInBounds_toArray, List.set_cons_zero, List.set_cons_succ]
       refine wpAnyH_ready (rs := [7]) (by kernel_rfl) (by simp) (AllReadyH.cons (o := ?om8) ?im8 (fun K hK => ?_) AllReadyH.nil)
       case im8 => simp only [List.getElem?_toArray, List.getElem?_cons_succ, List.getElem?_cons_zero]; rfl
       rw [if_pos (by rfl)]
       go_simp
       go_at_call 77
       (with_reducible refine (V _).mono ?_)
       rintro e wz ⟨rfl, xz⟩
       refine hK.out _ _ (hHeld.ext xz) (fun hHeld => ?_)
       clear hK K
       try simp only [List.setIfInBounds_toArray, List.set_cons_zero, List.set_cons_succ]
       refine wpAnyH_take (i := 8) (oi := ?oim9) (v := ?vm9) ?him9 (by kernel_rfl) (by kernel_rfl) (by kernel_rfl) ?hQm9 (Or.inl ⟨?hwm9, ?hym9⟩) hHeld ?restm9
       case him9 => simp only [List.getElem?_toArray, List.getElem?_cons_succ, List.getElem?_cons_zero]; rfl
       case hQm9 => exact fun _ _ _ h => h
       case hwm9 => rfl
       case hym9 => (intro w9 hSw; obtain ⟨k0, k1⟩ := hSw.2.cells; go_simp; (try with_reducible rfl))
       case restm9 =>
       try simp only [Act.put, List.setIfInBounds_toArray, List.set_cons_zero, List.set_cons_succ]
       refine wpAnyH_take (i := 9) (oi := ?oim10) (v := ?vm10) ?him10 (by kernel_rfl) (by kernel_rfl) (by kernel_rfl) ?hQm10 (Or.inl ⟨?hwm10, ?hym10⟩) hHeld ?restm10
       case him10 => simp only [List.getElem?_toArray, List.getElem?_cons_succ, List.getElem?_cons_zero]; rfl
       case hQm10 => exact fun _ _ _ h => h
       case hwm10 => rfl
       case hym10 => (intro w9 hSw; obtain ⟨k0, k1⟩ := hSw.2.cells; go_simp; (try with_reducible rfl))
       case restm10 =>
       try simp only [Act.put, List.setIfInBounds_toArray, List.set_cons_zero, List.set_cons_succ]
       refine wpAnyH_take (i := 10) (oi := ?oim11) (v := ?vm11) ?him11 (by kernel_rfl) (by kernel_rfl) (by kernel_rfl) ?hQm11 (Or.inl ⟨?hwm11, ?hym11⟩) hHeld ?restm11
       case him11 => simp only [List.getElem?_toArray, List.getElem?_cons_succ, List.getElem?_cons_zero]; rfl
       case hQm11 => exact fun _ _ _ h => h
       case hwm11 => rfl
       case hym11 => (intro w9 hSw; obtain ⟨k0, k1⟩ := hSw.2.cells; go_simp; (try with_reducible rfl))
       case restm11 =>
       try simp only [Act.put, List.setIfInBounds_toArray, List.set_cons_zero, List.set_cons_succ]
       refine wpAnyH_take (i := 11) (oi := ?oim12) (v := ?vm12) ?him12 (by kernel_rfl) (by kernel_rfl) (by kernel_rfl) ?hQm12 (Or.inl ⟨?hwm12, ?hym12⟩) hHeld ?restm12
       case him12 => simp only [List.getElem?_toArray, List.getElem?_cons_succ, List.getElem?_cons_zero]; rfl
       case hQm12 => exact fun _ _ _ h => h
       case hwm12 => rfl
       case hym12 => (intro w9 hSw; obtain ⟨k0, k1⟩ := hSw.2.cells; go_simp; (try with_reducible rfl))
       case restm12 =>
       try simp only [Act.put, List.setIfInBounds_toArray, List.set_cons_zero, List.set_cons_succ]
       refine wpAnyH_take (i := 12) (oi := ?oim13) (v := ?vm13) ?him13 (by kernel_rfl) (by kernel_rfl) (by kernel_rfl) ?hQm13 (Or.inl ⟨?hwm13, ?hym13⟩) hHeld ?restm13
       case him13 => simp only [List.getElem?_toArray, List.getElem?_cons_succ, List.getElem?_cons_zero]; rfl
       case hQm13 => exact fun _ _ _ h => h
       case hwm13 => rfl
       case hym13 => (intro w9 hSw; obtain ⟨k0, k1⟩ := hSw.2.cells; go_simp; (try with_reducible rfl))
       case restm13 =>
       try simp only [Act.put, List.setIfInBounds_toArray, List.set_cons_zero, List.set_cons_succ]
       refine wpAnyH_take (i := 13) (oi := ?oim14) (v := ?vm14) ?him14 (by kernel_rfl) (by kernel_rfl) (by kernel_rfl) ?hQm14 (Or.inl ⟨?hwm14, ?hym14⟩) hHeld ?restm14
       case him14 => simp only [List.getElem?_toArray, List.getElem?_cons_succ, List.getElem?_cons_zero]; rfl
       case hQm14 => exact fun _ _ _ h => h
       case hwm14 => rfl
       case hym14 => (intro w9 hSw; obtain ⟨k0, k1⟩ := hSw.2.cells; go_simp; (try with_reducible rfl))
       case restm14 =>
       try simp only [Act.put, List.setIfInBounds_toArray, List.set_cons_zero, List.set_cons_succ]
       refine wpAnyH_take (i := 14) (oi := ?oim15) (v := undef) ?him15 (by kernel_rfl) (by kernel_rfl) (by kernel_rfl) ?hQm15 (Or.inr ⟨?hwm15, rfl⟩) hHeld ?restm15
       case him15 => simp only [List.getElem?_toArray, List.getElem?_cons_succ, List.getElem?_cons_zero]; rfl
       case hQm15 => exact fun _ _ _ h => h
       case hwm15 => rfl
       case restm15 =>
       try simp only [Act.put, List.setIfInBounds_toArray, List.set_cons_zero, List.set_cons_succ]
       refine wpAnyH_take (i := 15) (oi := ?oim16) (v := undef) ?him16 (by kernel_rfl) (by kernel_rfl) (by kernel_rfl) ?hQm16 (Or.inr ⟨?hwm16, rfl⟩) hHeld ?restm16
       case him16 => simp only [List.getElem?_toArray, List.getElem?_cons_succ, List.getElem?_cons_zero]; rfl
       case hQm16 => exact fun _ _ _ h => h
       case hwm16 => rfl
       case restm16 =>
       try simp only [Act.put, List.setIfInBounds_toArray, List.set_cons_zero, List.set_cons_succ]
       refine wpAnyH_take (i := 16) (oi := ?oim17) (v := undef) ?him17 (by kernel_rfl) (by kernel_rfl) (by kernel_rfl) ?hQm17 (Or.inr ⟨?hwm17, rfl⟩) hHeld ?restm17
       case him17 => simp only [List.getElem?_toArray, List.getElem?_cons_succ, List.getElem?_cons_zero]; rfl
       case hQm17 => exact fun _ _ _ h => h
       case hwm17 => rfl
       case restm17 =>
       try simp only [Act.put, List.setIfInBounds_toArray, List.set_cons_zero, List.set_cons_succ]
       refine wpAnyH_take (i := 17) (oi := ?oim18) (v := undef) ?him18 (by kernel_rfl) (by kernel_rfl) (by kernel_rfl) ?hQm18 (Or.inr ⟨?hwm18, rfl⟩) hHeld ?restm18
       case him18 => simp only [List.getElem?_toArray, List.getElem?_cons_succ, List.getElem?_cons_zero]; rfl
       case hQm18 => exact fun _ _ _ h => h
       case hwm18 => rfl
       case restm18 =>
       try simp only [Act.put, List.setIfInBounds_toArray, List.set_cons_zero, List.set_cons_succ]
       refine wpAnyH_take (i := 18) (oi := ?oim19) (v := undef) ?him19 (by kernel_rfl) (by kernel_rfl) (by kernel_rfl) ?hQm19 (Or.inr ⟨?hwm19, rfl⟩) hHeld ?restm19
       case him19 => simp only [List.getElem?_toArray, List.getElem?_cons_succ, List.getElem?_cons_zero]; rfl
       case hQm19 => exact fun _ _ _ h => h
       case hwm19 => rfl
       case restm19 =>
       try simp only [Act.put, List.setIfInBounds_toArray, List.set_cons_zero, List.set_cons_succ]
       refine wpAnyH_take (i := 19) (oi := ?oim20) (v := undef) ?him20 (by kernel_rfl) (by kernel_rfl) (by kernel_rfl) ?hQm20 (Or.inr ⟨?hwm20, rfl⟩) hHeld ?restm20
       case him20 => simp only [List.getElem?_toArray, List.getElem?_cons_succ, List.getElem?_cons_zero]; rfl
       case hQm20 => exact fun _ _ _ h => h
       case hwm20 => rfl
       case restm20 =>
       try simp only [Act.put, List.setIfInBounds_toArray, List.set_cons_zero, List.set_cons_succ]
       refine wpAnyH_take (i := 20) (oi := ?oim21) (v := undef) ?him21 (by kernel_rfl) (by kernel_rfl) (by kernel_rfl) ?hQm21 (Or.inr ⟨?hwm21, rfl⟩) hHeld ?restm21
       case him21 => simp only [List.getElem?_toArray, List.getElem?_cons_succ, List.getElem?_cons_zero]; rfl
       case hQm21 => exact fun _ _ _ h => h
       case hwm21 => rfl
       case restm21 =>
       try simp only [Act.put, List.setIfInBounds_toArray, List.set_cons_zero, List.set_cons_succ]
       refine wpAnyH_take (i := 21) (oi := ?oim22) (v := undef) ?him22 (by kernel_rfl) (by kernel_rfl) (by kernel_rfl) ?hQm22 (Or.inr ⟨?hwm22, rfl⟩) hHeld ?restm22
       case him22 => simp only [List.getElem?_toArray, List.getElem?_cons_succ, List.getElem?_cons_zero]; rfl
       case hQm22 => exact fun _ _ _ h => h
       case hwm22 => rfl
       case restm22 =>
       try simp only [Act.put, List.setIfInBounds_toArray, List.set_cons_zero, List.set_cons_succ]
       refine wpAnyH_take (i := 22) (oi := ?oim23) (v := undef) ?him23 (by kernel_rfl) (by kernel_rfl) (by kernel_rfl) ?hQm23 (Or.inr ⟨?hwm23, rfl⟩) hHeld ?restm23
       case him23 => simp only [List.getElem?_toArray, List.getElem?_cons_succ, List.getElem?_cons_zero]; rfl
       case hQm23 => exact fun _ _ _ h => h
       case hwm23 => rfl
       case restm23 =>
       try simp only [Act.put, List.setIfInBounds_toArray, List.set_cons_zero, List.set_cons_succ]
       refine wpAnyH_take (i := 23) (oi := ?oim24) (v := ?vm24) ?him24 (by kernel_rfl) (by kernel_rfl) (by kernel_rfl) ?hQm24 (Or.inl ⟨?hwm24, ?hym24⟩) hHeld ?restm24
       case him24 => simp only [List.getElem?_toArray, List.getElem?_cons_succ, List.getElem?_cons_zero]; rfl
       case hQm24 => exact fun _ _ _ h => h
       case hwm24 => rfl
       case hym24 => (intro w9 hSw; obtain ⟨k0, k1⟩ := hSw.2.cells; go_simp; (try with_reducible rfl))
       case restm24 =>
       try simp only [Act.put, List.setIfInBounds_toArray, List.set_cons_zero, List.set_cons_succ]
       refine wpAnyH_take (i := 24) (oi := ?oim25) (v := ?vm25) ?him25 (by kernel_rfl) (by kernel_rfl) (by kernel_rfl) ?hQm25 (Or.inl ⟨?hwm25, ?hym25⟩) hHeld ?restm25
       case him25 => simp only [List.getElem?_toArray, List.getElem?_cons_succ, List.getElem?_cons_zero]; rfl
       case hQm25 => exact fun _ _ _ h => h
       case hwm25 => rfl
       case hym25 => (intro w9 hSw; obtain ⟨k0, k1⟩ := hSw.2.cells; go_simp; (try with_reducible rfl))
       case restm25 =>
       try simp only [Act.put, List.setIfInBounds_toArray, List.set_cons_zero, List.set_cons_succ]
       refine wpAnyH_done (by kernel_rfl) ?_ _
       have xf := hHeld.1
       go_wp2_with fail
       go_roundw
       case rel => exact ⟨1, rfl, hlt, Lib.hid (by rw [htl]; exact hd2.out), xf⟩
       case measure => simp only [intOf]; omega
     | succ k =>
       have hp := take_last l k (by omega)
       have hp0 := (hL k (by omega)).1
       obtain ⟨p, hpe⟩ : ∃ p, (l[k]'(by omega)).1 = p := ⟨_, rfl⟩
       rw [hpe] at hp hp0
       rw [hp] at hd
       have e1 : IntKind.i64.wrap (k : Int) = (k : Int) := IntWalk.i64_in _ (by omega)
       have e2 : (k : Int) < (l.length : Int) := by omega
       have hd1 : (!(geS p n) && goodGo (some n) (l.drop (k + 1 + 1))) = goodGo none l := by
        rw [← hd]
        show _ = (nameB n && (valueB v && (!(geS p n) && goodGo (some n) (l.drop (k + 1 + 1)))))
        rw [hn, hv, Bool.true_and, Bool.true_and]
       clear hd hn hv
       by_cases hge : geS p n = true
       ·rw [hge] at hd1
        have nl : Op.bytesLess p.toList n.toList = false := by
         rw [less_is, decide_eq_false]
         unfold geS at hge
         simp only [decide_eq_true_eq] at hge
         omega
        have HV : Hid (R = false) := Lib.hid (by rw [← hR.out, ← hd1]; rfl)
        clear hR hd1 hge
        go_wp2_with fail
        refine wp_region_held_drew (S := Lab1 w wr.heap.size n v) (by kernel_rfl) (hJ0.ext (Ext.refl _).drew) (fun hHeld => ?_)
        refine wpAnyH_take (i := 0) (oi := ?oim26) (v := ?vm26) ?him26 (by kernel_rfl) (by kernel_rfl) (by kernel_rfl) ?hQm26 (Or.inl ⟨?hwm26, ?hym26⟩) hHeld ?restm26
        case him26 => simp only [List.getElem?_toArray, List.getElem?_cons_zero]; rfl
        case hQm26 => exact fun _ _ _ h => h
        case hwm26 => rfl
        case hym26 => (intro w9 hSw; obtain ⟨k0, k1⟩ := hSw.2.cells; have k2 := (hSw.1.cell (p := ⟨b, o + k * 2, none⟩) hb).trans hp0; go_simp; (try with_reducible rfl))
        case restm26 =>
        try simp only [Act.put, List.setIfInBounds_toArray, List.set_cons_zero, List.set_cons_succ]
        refine wpAnyH_take (i := 1) (oi := ?oim27) (v := ?vm27) ?him27 (by kernel_rfl) (by kernel_rfl) (by kernel_rfl) ?hQm27 (Or.inl ⟨?hwm27, ?hym27⟩) hHeld ?restm27
        case him27 => simp only [List.getElem?_toArray, List.getElem?_cons_succ, List.getElem?_cons_zero]; rfl
        case hQm27 => exact fun _ _ _ h => h
        case hwm27 => rfl
        case hym27 => (intro w9 hSw; obtain ⟨k0, k1⟩ := hSw.2.cells; have k2 := (hSw.1.cell (p := ⟨b, o + k * 2, none⟩) hb).trans hp0; go_simp; (try with_reducible rfl))
        case restm27 =>
        try simp only [Act.put, List.setIfInBounds_toArray, List.set_cons_zero, List.set_cons_succ]
        refine wpAnyH_ready (rs := [2]) (by kernel_rfl) (by simp) (AllReadyH.cons (o := ?om28) ?im28 (fun K hK => ?_) AllReadyH.nil)
        case im28 => simp only [List.getElem?_toArray, List.getElem?_cons_succ, List.getElem?_cons_zero]; rfl
        rw [if_pos (by rfl)]
        go_simp
        go_at_call 75
        (with_reducible refine (N _).mono ?_)
        rintro e wz ⟨rfl, xz⟩
        refine hK.out _ _ (hHeld.ext xz) (fun hHeld => ?_)
        clear hK K
        try simp only [List.setIfInBounds_toArray, List.set_cons_zero, List.set_cons_succ]
        refine wpAnyH_take (i := 3) (oi := ?oim29) (v := ?vm29) ?him29 (by kernel_rfl) (by kernel_rfl) (by kernel_rfl) ?hQm29 (Or.inl ⟨?hwm29, ?hym29⟩) hHeld ?restm29
        case him29 => simp only [List.getElem?_toArray, List.getElem?_cons_succ, List.getElem?_cons_zero]; rfl
        case hQm29 => exact fun _ _ _ h => h
        case hwm29 => rfl
        case hym29 => (intro w9 hSw; obtain ⟨k0, k1⟩ := hSw.2.cells; have k2 := (hSw.1.cell (p := ⟨b, o + k * 2, none⟩) hb).trans hp0; go_simp; (try with_reducible rfl))
        case restm29 =>
        try simp only [Act.put, List.setIfInBounds_toArray, List.set_cons_zero, List.set_cons_succ]
        refine wpAnyH_take (i := 4) (oi := ?oim30) (v := ?vm30) ?him30 (by kernel_rfl) (by kernel_rfl) (by kernel_rfl) ?hQm30 (Or.inl ⟨?hwm30, ?hym30⟩) hHeld ?restm30
        case him30 => simp only [List.getElem?_toArray, List.getElem?_cons_succ, List.getElem?_cons_zero]; rfl
        case hQm30 => exact fun _ _ _ h => h
        case hwm30 => rfl
        case hym30 => (intro w9 hSw; obtain ⟨k0, k1⟩ := hSw.2.cells; have k2 := (hSw.1.cell (p := ⟨b, o + k * 2, none⟩) hb).trans hp0; go_simp; (try with_reducible rfl))
        case restm30 =>
        try simp only [Act.put, List.setIfInBounds_toArray, List.set_cons_zero, List.set_cons_succ]
        refine wpAnyH_take (i := 5) (oi := ?oim31) (v := ?vm31) ?him31 (by kernel_rfl) (by kernel_rfl) (by kernel_rfl) ?hQm31 (Or.inl ⟨?hwm31, ?hym31⟩) hHeld ?restm31
        case him31 => simp only [List.getElem?_toArray, List.getElem?_cons_succ, List.getElem?_cons_zero]; rfl
        case hQm31 => exact fun _ _ _ h => h
        case hwm31 => rfl
        case hym31 => (intro w9 hSw; obtain ⟨k0, k1⟩ := hSw.2.cells; have k2 := (hSw.1.cell (p := ⟨b, o + k * 2, none⟩) hb).trans hp0; go_simp; (try with_reducible rfl))
        case restm31 =>
        try simp only [Act.put, List.setIfInBounds_toArray, List.set_cons_zero, List.set_cons_succ]
        refine wpAnyH_take (i := 6) (oi := ?oim32) (v := ?vm32) ?him32 (by kernel_rfl) (by kernel_rfl) (by kernel_rfl) ?hQm32 (Or.inl ⟨?hwm32, ?hym32⟩) hHeld ?restm32
        case him32 => simp only [List.getElem?_toArray, List.getElem?_cons_succ, List.getElem?_cons_zero]; rfl
        case hQm32 => exact fun _ _ _ h => h
        case hwm32 => rfl
        case hym32 => (intro w9 hSw; obtain ⟨k0, k1⟩ := hSw.2.cells; have k2 := (hSw.1.cell (p := ⟨b, o + k * 2, none⟩) hb).trans hp0; go_simp; (try with_reducible rfl))
        case restm32 =>
        try simp only [Act.put, List.setIfInBounds_toArray, List.set_cons_zero, List.set_cons_succ]
        refine wpAnyH_ready (rs := [7]) (by kernel_rfl) (by simp) (AllReadyH.cons (o := ?om33) ?im33 (fun K hK => ?_) AllReadyH.nil)
        case im33 => simp only [List.getElem?_toArray, List.getElem?_cons_succ, List.getElem?_cons_zero]; rfl
        rw [if_pos (by rfl)]
        go_simp
        go_at_call 77
        (with_reducible refine (V _).mono ?_)
        rintro e wz ⟨rfl, xz⟩
        refine hK.out _ _ (hHeld.ext xz) (fun hHeld => ?_)
        clear hK K
        try simp only [List.setIfInBounds_toArray, List.set_cons_zero, List.set_cons_succ]
        refine wpAnyH_take (i := 8) (oi := ?oim34) (v := ?vm34) ?him34 (by kernel_rfl) (by kernel_rfl) (by kernel_rfl) ?hQm34 (Or.inl ⟨?hwm34, ?hym34⟩) hHeld ?restm34
        case him34 => simp only [List.getElem?_toArray, List.getElem?_cons_succ, List.getElem?_cons_zero]; rfl
        case hQm34 => exact fun _ _ _ h => h
        case hwm34 => rfl
        case hym34 => (intro w9 hSw; obtain ⟨k0, k1⟩ := hSw.2.cells; have k2 := (hSw.1.cell (p := ⟨b, o + k * 2, none⟩) hb).trans hp0; go_simp; (try with_reducible rfl))
        case restm34 =>
        try simp only [Act.put, List.setIfInBounds_toArray, List.set_cons_zero, List.set_cons_succ]
        refine wpAnyH_take (i := 9) (oi := ?oim35) (v := ?vm35) ?him35 (by kernel_rfl) (by kernel_rfl) (by kernel_rfl) ?hQm35 (Or.inl ⟨?hwm35, ?hym35⟩) hHeld ?restm35
        case him35 => simp only [List.getElem?_toArray, List.getElem?_cons_succ, List.getElem?_cons_zero]; rfl
        case hQm35 => exact fun _ _ _ h => h
        case hwm35 => rfl
        case hym35 => (intro w9 hSw; obtain ⟨k0, k1⟩ := hSw.2.cells; have k2 := (hSw.1.cell (p := ⟨b, o + k * 2, none⟩) hb).trans hp0; go_simp; (try with_reducible rfl))
        case restm35 =>
        try simp only [Act.put, List.setIfInBounds_toArray, List.set_cons_zero, List.set_cons_succ]
        refine wpAnyH_take (i := 10) (oi := ?oim36) (v := ?vm36) ?him36 (by kernel_rfl) (by kernel_rfl) (by kernel_rfl) ?hQm36 (Or.inl ⟨?hwm36, ?hym36⟩) hHeld ?restm36
        case him36 => simp only [List.getElem?_toArray, List.getElem?_cons_succ, List.getElem?_cons_zero]; rfl
        case hQm36 => exact fun _ _ _ h => h
        case hwm36 => rfl
        case hym36 => (intro w9 hSw; obtain ⟨k0, k1⟩ := hSw.2.cells; have k2 := (hSw.1.cell (p := ⟨b, o + k * 2, none⟩) hb).trans hp0; go_simp; (try with_reducible rfl))
        case restm36 =>
        try simp only [Act.put, List.setIfInBounds_toArray, List.set_cons_zero, List.set_cons_succ]
        refine wpAnyH_take (i := 11) (oi := ?oim37) (v := ?vm37) ?him37 (by kernel_rfl) (by kernel_rfl) (by kernel_rfl) ?hQm37 (Or.inl ⟨?hwm37, ?hym37⟩) hHeld ?restm37
        case him37 => simp only [List.getElem?_toArray, List.getElem?_cons_succ, List.getElem?_cons_zero]; rfl
        case hQm37 => exact fun _ _ _ h => h
        case hwm37 => rfl
        case hym37 => (intro w9 hSw; obtain ⟨k0, k1⟩ := hSw.2.cells; have k2 := (hSw.1.cell (p := ⟨b, o + k * 2, none⟩) hb).trans hp0; go_simp; (try with_reducible rfl))
        case restm37 =>
        try simp only [Act.put, List.setIfInBounds_toArray, List.set_cons_zero, List.set_cons_succ]
        refine wpAnyH_take (i := 12) (oi := ?oim38) (v := ?vm38) ?him38 (by kernel_rfl) (by kernel_rfl) (by kernel_rfl) ?hQm38 (Or.inl ⟨?hwm38, ?hym38⟩) hHeld ?restm38
        case him38 => simp only [List.getElem?_toArray, List.getElem?_cons_succ, List.getElem?_cons_zero]; rfl
        case hQm38 => exact fun _ _ _ h => h
        case hwm38 => rfl
        case hym38 => (intro w9 hSw; obtain ⟨k0, k1⟩ := hSw.2.cells; have k2 := (hSw.1.cell (p := ⟨b, o + k * 2, none⟩) hb).trans hp0; go_simp; (try with_reducible rfl))
        case restm38 =>
        try simp only [Act.put, List.setIfInBounds_toArray, List.set_cons_zero, List.set_cons_succ]
        refine wpAnyH_take (i := 13) (oi := ?oim39) (v := ?vm39) ?him39 (by kernel_rfl) (by kernel_rfl) (by kernel_rfl) ?hQm39 (Or.inl ⟨?hwm39, ?hym39⟩) hHeld ?restm39
        case him39 => simp only [List.getElem?_toArray, List.getElem?_cons_succ, List.getElem?_cons_zero]; rfl
        case hQm39 => exact fun _ _ _ h => h
        case hwm39 => rfl
        case hym39 => (intro w9 hSw; obtain ⟨k0, k1⟩ := hSw.2.cells; have k2 := (hSw.1.cell (p := ⟨b, o + k * 2, none⟩) hb).trans hp0; go_simp; (try with_reducible rfl))
        case restm39 =>
        try simp only [Act.put, List.setIfInBounds_toArray, List.set_cons_zero, List.set_cons_succ]
        refine wpAnyH_take (i := 14) (oi := ?oim40) (v := ?vm40) ?him40 (by kernel_rfl) (by kernel_rfl) (by kernel_rfl) ?hQm40 (Or.inl ⟨?hwm40, ?hym40⟩) hHeld ?restm40
        case him40 => simp only [List.getElem?_toArray, List.getElem?_cons_succ, List.getElem?_cons_zero]; rfl
        case hQm40 => exact fun _ _ _ h => h
        case hwm40 => rfl
        case hym40 => (intro w9 hSw; obtain ⟨k0, k1⟩ := hSw.2.cells; have k2 := (hSw.1.cell (p := ⟨b, o + k * 2, none⟩) hb).trans hp0; go_simp; (try with_reducible rfl))
        case restm40 =>
        try simp only [Act.put, List.setIfInBounds_toArray, List.set_cons_zero, List.set_cons_succ]
        refine wpAnyH_take (i := 15) (oi := ?oim41) (v := ?vm41) ?him41 (by kernel_rfl) (by kernel_rfl) (by kernel_rfl) ?hQm41 (Or.inl ⟨?hwm41, ?hym41⟩) hHeld ?restm41
        case him41 => simp only [List.getElem?_toArray, List.getElem?_cons_succ, List.getElem?_cons_zero]; rfl
        case hQm41 => exact fun _ _ _ h => h
        case hwm41 => rfl
        case hym41 => (intro w9 hSw; obtain ⟨k0, k1⟩ := hSw.2.cells; have k2 := (hSw.1.cell (p := ⟨b, o + k * 2, none⟩) hb).trans hp0; go_simp; (try with_reducible rfl))
        case restm41 =>
        try simp only [Act.put, List.setIfInBounds_toArray, List.set_cons_zero, List.set_cons_succ]
        refine wpAnyH_take (i := 16) (oi := ?oim42) (v := ?vm42) ?him42 (by kernel_rfl) (by kernel_rfl) (by kernel_rfl) ?hQm42 (Or.inl ⟨?hwm42, ?hym42⟩) hHeld ?restm42
        case him42 => simp only [List.getElem?_toArray, List.getElem?_cons_succ, List.getElem?_cons_zero]; rfl
        case hQm42 => exact fun _ _ _ h => h
        case hwm42 => rfl
        case hym42 => (intro w9 hSw; obtain ⟨k0, k1⟩ := hSw.2.cells; have k2 := (hSw.1.cell (p := ⟨b, o + k * 2, none⟩) hb).trans hp0; go_simp; (try with_reducible rfl))
        case restm42 =>
        try simp only [Act.put, List.setIfInBounds_toArray, List.set_cons_zero, List.set_cons_succ]
        refine wpAnyH_take (i := 17) (oi := ?oim43) (v := ?vm43) ?him43 (by kernel_rfl) (by kernel_rfl) (by kernel_rfl) ?hQm43 (Or.inl ⟨?hwm43, ?hym43⟩) hHeld ?restm43
        case him43 => simp only [List.getElem?_toArray, List.getElem?_cons_succ, List.getElem?_cons_zero]; rfl
        case hQm43 => exact fun _ _ _ h => h
        case hwm43 => rfl
        case hym43 => (intro w9 hSw; obtain ⟨k0, k1⟩ := hSw.2.cells; have k2 := (hSw.1.cell (p := ⟨b, o + k * 2, none⟩) hb).trans hp0; go_simp; (try with_reducible rfl))
        case restm43 =>
        try simp only [Act.put, List.setIfInBounds_toArray, List.set_cons_zero, List.set_cons_succ]
        refine wpAnyH_take (i := 18) (oi := ?oim44) (v := ?vm44) ?him44 (by kernel_rfl) (by kernel_rfl) (by kernel_rfl) ?hQm44 (Or.inl ⟨?hwm44, ?hym44⟩) hHeld ?restm44
        case him44 => simp only [List.getElem?_toArray, List.getElem?_cons_succ, List.getElem?_cons_zero]; rfl
        case hQm44 => exact fun _ _ _ h => h
        case hwm44 => rfl
        case hym44 => (intro w9 hSw; obtain ⟨k0, k1⟩ := hSw.2.cells; have k2 := (hSw.1.cell (p := ⟨b, o + k * 2, none⟩) hb).trans hp0; go_simp; (try with_reducible rfl))
        case restm44 =>
        try simp only [Act.put, List.setIfInBounds_toArray, List.set_cons_zero, List.set_cons_succ]
        refine wpAnyH_take (i := 19) (oi := ?oim45) (v := ?vm45) ?him45 (by kernel_rfl) (by kernel_rfl) (by kernel_rfl) ?hQm45 (Or.inl ⟨?hwm45, ?hym45⟩) hHeld ?restm45
        case him45 => simp only [List.getElem?_toArray, List.getElem?_cons_succ, List.getElem?_cons_zero]; rfl
        case hQm45 => exact fun _ _ _ h => h
        case hwm45 => rfl
        case hym45 => (intro w9 hSw; obtain ⟨k0, k1⟩ := hSw.2.cells; have k2 := (hSw.1.cell (p := ⟨b, o + k * 2, none⟩) hb).trans hp0; go_simp; (try with_reducible rfl))
        case restm45 =>
        try simp only [Act.put, List.setIfInBounds_toArray, List.set_cons_zero, List.set_cons_succ]
        refine wpAnyH_take (i := 20) (oi := ?oim46) (v := ?vm46) ?him46 (by kernel_rfl) (by kernel_rfl) (by kernel_rfl) ?hQm46 (Or.inl ⟨?hwm46, ?hym46⟩) hHeld ?restm46
        case him46 => simp only [List.getElem?_toArray, List.getElem?_cons_succ, List.getElem?_cons_zero]; rfl
        case hQm46 => exact fun _ _ _ h => h
        case hwm46 => rfl
        case hym46 => (intro w9 hSw; obtain ⟨k0, k1⟩ := hSw.2.cells; have k2 := (hSw.1.cell (p := ⟨b, o + k * 2, none⟩) hb).trans hp0; go_simp; (try with_reducible rfl))
        case restm46 =>
        try simp only [Act.put, List.setIfInBounds_toArray, List.set_cons_zero, List.set_cons_succ]
        refine wpAnyH_take (i := 21) (oi := ?oim47) (v := ?vm47) ?him47 (by kernel_rfl) (by kernel_rfl) (by kernel_rfl) ?hQm47 (Or.inl ⟨?hwm47, ?hym47⟩) hHeld ?restm47
        case him47 => simp only [List.getElem?_toArray, List.getElem?_cons_succ, List.getElem?_cons_zero]; rfl
        case hQm47 => exact fun _ _ _ h => h
        case hwm47 => rfl
        case hym47 => (intro w9 hSw; obtain ⟨k0, k1⟩ := hSw.2.cells; have k2 := (hSw.1.cell (p := ⟨b, o + k * 2, none⟩) hb).trans hp0; go_simp; (try with_reducible rfl))
        case restm47 =>
        try simp only [Act.put, List.setIfInBounds_toArray, List.set_cons_zero, List.set_cons_succ]
        refine wpAnyH_take (i := 22) (oi := ?oim48) (v := ?vm48) ?him48 (by kernel_rfl) (by kernel_rfl) (by kernel_rfl) ?hQm48 (Or.inl ⟨?hwm48, ?hym48⟩) hHeld ?restm48
        case him48 => simp only [List.getElem?_toArray, List.getElem?_cons_succ, List.getElem?_cons_zero]; rfl
        case hQm48 => exact fun _ _ _ h => h
        case hwm48 => rfl
        case hym48 => (intro w9 hSw; obtain ⟨k0, k1⟩ := hSw.2.cells; have k2 := (hSw.1.cell (p := ⟨b, o + k * 2, none⟩) hb).trans hp0; go_simp; (try with_reducible rfl))
        case restm48 =>
        try simp only [Act.put, List.setIfInBounds_toArray, List.set_cons_zero, List.set_cons_succ]
        refine wpAnyH_take (i := 23) (oi := ?oim49) (v := ?vm49) ?him49 (by kernel_rfl) (by kernel_rfl) (by kernel_rfl) ?hQm49 (Or.inl ⟨?hwm49, ?hym49⟩) hHeld ?restm49
        case him49 => simp only [List.getElem?_toArray, List.getElem?_cons_succ, List.getElem?_cons_zero]; rfl
        case hQm49 => exact fun _ _ _ h => h
        case hwm49 => rfl
        case hym49 => (intro w9 hSw; obtain ⟨k0, k1⟩ := hSw.2.cells; have k2 := (hSw.1.cell (p := ⟨b, o + k * 2, none⟩) hb).trans hp0; go_simp; (try with_reducible rfl))
        case restm49 =>
        try simp only [Act.put, List.setIfInBounds_toArray, List.set_cons_zero, List.set_cons_succ]
        refine wpAnyH_take (i := 24) (oi := ?oim50) (v := ?vm50) ?him50 (by kernel_rfl) (by kernel_rfl) (by kernel_rfl) ?hQm50 (Or.inl ⟨?hwm50, ?hym50⟩) hHeld ?restm50
        case him50 => simp only [List.getElem?_toArray, List.getElem?_cons_succ, List.getElem?_cons_zero]; rfl
        case hQm50 => exact fun _ _ _ h => h
        case hwm50 => rfl
        case hym50 => (intro w9 hSw; obtain ⟨k0, k1⟩ := hSw.2.cells; have k2 := (hSw.1.cell (p := ⟨b, o + k * 2, none⟩) hb).trans hp0; go_simp; (try with_reducible rfl))
        case restm50 =>
        try simp only [Act.put, List.setIfInBounds_toArray, List.set_cons_zero, List.set_cons_succ]
        refine wpAnyH_done (by kernel_rfl) ?_ _
        have xf := hHeld.1
        go_wp2_with fail
        go_ret
        exact ⟨retB HV.out.symm, xf⟩
       ·rw [show geS p n = false from by simpa using hge] at hd1
        have nl : Op.bytesLess p.toList n.toList = true := by
         rw [less_is, decide_eq_true]
         unfold geS at hge
         simp only [decide_eq_true_eq] at hge
         omega
        replace hd1 := Lib.hid hd1
        clear hge
        go_wp2_with fail
        refine wp_region_held_drew (S := Lab1 w wr.heap.size n v) (by kernel_rfl) (hJ0.ext (Ext.refl _).drew) (fun hHeld => ?_)
        refine wpAnyH_take (i := 0) (oi := ?oim51) (v := ?vm51) ?him51 (by kernel_rfl) (by kernel_rfl) (by kernel_rfl) ?hQm51 (Or.inl ⟨?hwm51, ?hym51⟩) hHeld ?restm51
        case him51 => simp only [List.getElem?_toArray, List.getElem?_cons_zero]; rfl
        case hQm51 => exact fun _ _ _ h => h
        case hwm51 => rfl
        case hym51 => (intro w9 hSw; obtain ⟨k0, k1⟩ := hSw.2.cells; have k2 := (hSw.1.cell (p := ⟨b, o + k * 2, none⟩) hb).trans hp0; go_simp; (try with_reducible rfl))
        case restm51 =>
        try simp only [Act.put, List.setIfInBounds_toArray, List.set_cons_zero, List.set_cons_succ]
        refine wpAnyH_take (i := 1) (oi := ?oim52) (v := ?vm52) ?him52 (by kernel_rfl) (by kernel_rfl) (by kernel_rfl) ?hQm52 (Or.inl ⟨?hwm52, ?hym52⟩) hHeld ?restm52
        case him52 => simp only [List.getElem?_toArray, List.getElem?_cons_succ, List.getElem?_cons_zero]; rfl
        case hQm52 => exact fun _ _ _ h => h
        case hwm52 => rfl
        case hym52 => (intro w9 hSw; obtain ⟨k0, k1⟩ := hSw.2.cells; have k2 := (hSw.1.cell (p := ⟨b, o + k * 2, none⟩) hb).trans hp0; go_simp; (try with_reducible rfl))
        case restm52 =>
        try simp only [Act.put, List.setIfInBounds_toArray, List.set_cons_zero, List.set_cons_succ]
        refine wpAnyH_ready (rs := [2]) (by kernel_rfl) (by simp) (AllReadyH.cons (o := ?om53) ?im53 (fun K hK => ?_) AllReadyH.nil)
        case im53 => simp only [List.getElem?_toArray, List.getElem?_cons_succ, List.getElem?_cons_zero]; rfl
        rw [if_pos (by rfl)]
        go_simp
        go_at_call 75
        (with_reducible refine (N _).mono ?_)
        rintro e wz ⟨rfl, xz⟩
        refine hK.out _ _ (hHeld.ext xz) (fun hHeld => ?_)
        clear hK K
        try simp only [List.setIfInBounds_toArray, List.set_cons_zero, List.set_cons_succ]
        refine wpAnyH_take (i := 3) (oi := ?oim54) (v := ?vm54) ?him54 (by kernel_rfl) (by kernel_rfl) (by kernel_rfl) ?hQm54 (Or.inl ⟨?hwm54, ?hym54⟩) hHeld ?restm54
        case him54 => simp only [List.getElem?_toArray, List.getElem?_cons_succ, List.getElem?_cons_zero]; rfl
        case hQm54 => exact fun _ _ _ h => h
        case hwm54 => rfl
        case hym54 => (intro w9 hSw; obtain ⟨k0, k1⟩ := hSw.2.cells; have k2 := (hSw.1.cell (p := ⟨b, o + k * 2, none⟩) hb).trans hp0; go_simp; (try with_reducible rfl))
        case restm54 =>
        try simp only [Act.put, List.setIfInBounds_toArray, List.set_cons_zero, List.set_cons_succ]
        refine wpAnyH_take (i := 4) (oi := ?oim55) (v := ?vm55) ?him55 (by kernel_rfl) (by kernel_rfl) (by kernel_rfl) ?hQm55 (Or.inl ⟨?hwm55, ?hym55⟩) hHeld ?restm55
        case him55 => simp only [List.getElem?_toArray, List.getElem?_cons_succ, List.getElem?_cons_zero]; rfl
        case hQm55 => exact fun _ _ _ h => h
        case hwm55 => rfl
        case hym55 => (intro w9 hSw; obtain ⟨k0, k1⟩ := hSw.2.cells; have k2 := (hSw.1.cell (p := ⟨b, o + k * 2, none⟩) hb).trans hp0; go_simp; (try with_reducible rfl))
        case restm55 =>
        try simp only [Act.put, List.setIfInBounds_toArray, List.set_cons_zero, List.set_cons_succ]
        refine wpAnyH_take (i := 5) (oi := ?oim56) (v := ?vm56) ?him56 (by kernel_rfl) (by kernel_rfl) (by kernel_rfl) ?hQm56 (Or.inl ⟨?hwm56, ?hym56⟩) hHeld ?restm56
        case him56 => simp only [List.getElem?_toArray, List.getElem?_cons_succ, List.getElem?_cons_zero]; rfl
        case hQm56 => exact fun _ _ _ h => h
        case hwm56 => rfl
        case hym56 => (intro w9 hSw; obtain ⟨k0, k1⟩ := hSw.2.cells; have k2 := (hSw.1.cell (p := ⟨b, o + k * 2, none⟩) hb).trans hp0; go_simp; (try with_reducible rfl))
        case restm56 =>
        try simp only [Act.put, List.setIfInBounds_toArray, List.set_cons_zero, List.set_cons_succ]
        refine wpAnyH_take (i := 6) (oi := ?oim57) (v := ?vm57) ?him57 (by kernel_rfl) (by kernel_rfl) (by kernel_rfl) ?hQm57 (Or.inl ⟨?hwm57, ?hym57⟩) hHeld ?restm57
        case him57 => simp only [List.getElem?_toArray, List.getElem?_cons_succ, List.getElem?_cons_zero]; rfl
        case hQm57 => exact fun _ _ _ h => h
        case hwm57 => rfl
        case hym57 => (intro w9 hSw; obtain ⟨k0, k1⟩ := hSw.2.cells; have k2 := (hSw.1.cell (p := ⟨b, o + k * 2, none⟩) hb).trans hp0; go_simp; (try with_reducible rfl))
        case restm57 =>
        try simp only [Act.put, List.setIfInBounds_toArray, List.set_cons_zero, List.set_cons_succ]
        refine wpAnyH_ready (rs := [7]) (by kernel_rfl) (by simp) (AllReadyH.cons (o := ?om58) ?im58 (fun K hK => ?_) AllReadyH.nil)
        case im58 => simp only [List.getElem?_toArray, List.getElem?_cons_succ, List.getElem?_cons_zero]; rfl
        rw [if_pos (by rfl)]
        go_simp
        go_at_call 77
        (with_reducible refine (V _).mono ?_)
        rintro e wz ⟨rfl, xz⟩
        refine hK.out _ _ (hHeld.ext xz) (fun hHeld => ?_)
        clear hK K
        try simp only [List.setIfInBounds_toArray, List.set_cons_zero, List.set_cons_succ]
        refine wpAnyH_take (i := 8) (oi := ?oim59) (v := ?vm59) ?him59 (by kernel_rfl) (by kernel_rfl) (by kernel_rfl) ?hQm59 (Or.inl ⟨?hwm59, ?hym59⟩) hHeld ?restm59
        case him59 => simp only [List.getElem?_toArray, List.getElem?_cons_succ, List.getElem?_cons_zero]; rfl
        case hQm59 => exact fun _ _ _ h => h
        case hwm59 => rfl
        case hym59 => (intro w9 hSw; obtain ⟨k0, k1⟩ := hSw.2.cells; have k2 := (hSw.1.cell (p := ⟨b, o + k * 2, none⟩) hb).trans hp0; go_simp; (try with_reducible rfl))
        case restm59 =>
        try simp only [Act.put, List.setIfInBounds_toArray, List.set_cons_zero, List.set_cons_succ]
        refine wpAnyH_take (i := 9) (oi := ?oim60) (v := ?vm60) ?him60 (by kernel_rfl) (by kernel_rfl) (by kernel_rfl) ?hQm60 (Or.inl ⟨?hwm60, ?hym60⟩) hHeld ?restm60
        case him60 => simp only [List.getElem?_toArray, List.getElem?_cons_succ, List.getElem?_cons_zero]; rfl
        case hQm60 => exact fun _ _ _ h => h
        case hwm60 => rfl
        case hym60 => (intro w9 hSw; obtain ⟨k0, k1⟩ := hSw.2.cells; have k2 := (hSw.1.cell (p := ⟨b, o + k * 2, none⟩) hb).trans hp0; go_simp; (try with_reducible rfl))
        case restm60 =>
        try simp only [Act.put, List.setIfInBounds_toArray, List.set_cons_zero, List.set_cons_succ]
        refine wpAnyH_take (i := 10) (oi := ?oim61) (v := ?vm61) ?him61 (by kernel_rfl) (by kernel_rfl) (by kernel_rfl) ?hQm61 (Or.inl ⟨?hwm61, ?hym61⟩) hHeld ?restm61
        case him61 => simp only [List.getElem?_toArray, List.getElem?_cons_succ, List.getElem?_cons_zero]; rfl
        case hQm61 => exact fun _ _ _ h => h
        case hwm61 => rfl
        case hym61 => (intro w9 hSw; obtain ⟨k0, k1⟩ := hSw.2.cells; have k2 := (hSw.1.cell (p := ⟨b, o + k * 2, none⟩) hb).trans hp0; go_simp; (try with_reducible rfl))
        case restm61 =>
        try simp only [Act.put, List.setIfInBounds_toArray, List.set_cons_zero, List.set_cons_succ]
        refine wpAnyH_take (i := 11) (oi := ?oim62) (v := ?vm62) ?him62 (by kernel_rfl) (by kernel_rfl) (by kernel_rfl) ?hQm62 (Or.inl ⟨?hwm62, ?hym62⟩) hHeld ?restm62
        case him62 => simp only [List.getElem?_toArray, List.getElem?_cons_succ, List.getElem?_cons_zero]; rfl
        case hQm62 => exact fun _ _ _ h => h
        case hwm62 => rfl
        case hym62 => (intro w9 hSw; obtain ⟨k0, k1⟩ := hSw.2.cells; have k2 := (hSw.1.cell (p := ⟨b, o + k * 2, none⟩) hb).trans hp0; go_simp; (try with_reducible rfl))
        case restm62 =>
        try simp only [Act.put, List.setIfInBounds_toArray, List.set_cons_zero, List.set_cons_succ]
        refine wpAnyH_take (i := 12) (oi := ?oim63) (v := ?vm63) ?him63 (by kernel_rfl) (by kernel_rfl) (by kernel_rfl) ?hQm63 (Or.inl ⟨?hwm63, ?hym63⟩) hHeld ?restm63
        case him63 => simp only [List.getElem?_toArray, List.getElem?_cons_succ, List.getElem?_cons_zero]; rfl
        case hQm63 => exact fun _ _ _ h => h
        case hwm63 => rfl
        case hym63 => (intro w9 hSw; obtain ⟨k0, k1⟩ := hSw.2.cells; have k2 := (hSw.1.cell (p := ⟨b, o + k * 2, none⟩) hb).trans hp0; go_simp; (try with_reducible rfl))
        case restm63 =>
        try simp only [Act.put, List.setIfInBounds_toArray, List.set_cons_zero, List.set_cons_succ]
        refine wpAnyH_take (i := 13) (oi := ?oim64) (v := ?vm64) ?him64 (by kernel_rfl) (by kernel_rfl) (by kernel_rfl) ?hQm64 (Or.inl ⟨?hwm64, ?hym64⟩) hHeld ?restm64
        case him64 => simp only [List.getElem?_toArray, List.getElem?_cons_succ, List.getElem?_cons_zero]; rfl
        case hQm64 => exact fun _ _ _ h => h
        case hwm64 => rfl
        case hym64 => (intro w9 hSw; obtain ⟨k0, k1⟩ := hSw.2.cells; have k2 := (hSw.1.cell (p := ⟨b, o + k * 2, none⟩) hb).trans hp0; go_simp; (try with_reducible rfl))
        case restm64 =>
        try simp only [Act.put, List.setIfInBounds_toArray, List.set_cons_zero, List.set_cons_succ]
        refine wpAnyH_take (i := 14) (oi := ?oim65) (v := ?vm65) ?him65 (by kernel_rfl) (by kernel_rfl) (by kernel_rfl) ?hQm65 (Or.inl ⟨?hwm65, ?hym65⟩) hHeld ?restm65
        case him65 => simp only [List.getElem?_toArray, List.getElem?_cons_succ, List.getElem?_cons_zero]; rfl
        case hQm65 => exact fun _ _ _ h => h
        case hwm65 => rfl
        case hym65 => (intro w9 hSw; obtain ⟨k0, k1⟩ := hSw.2.cells; have k2 := (hSw.1.cell (p := ⟨b, o + k * 2, none⟩) hb).trans hp0; go_simp; (try with_reducible rfl))
        case restm65 =>
        try simp only [Act.put, List.setIfInBounds_toArray, List.set_cons_zero, List.set_cons_succ]
        refine wpAnyH_take (i := 15) (oi := ?oim66) (v := ?vm66) ?him66 (by kernel_rfl) (by kernel_rfl) (by kernel_rfl) ?hQm66 (Or.inl ⟨?hwm66, ?hym66⟩) hHeld ?restm66
        case him66 => simp only [List.getElem?_toArray, List.getElem?_cons_succ, List.getElem?_cons_zero]; rfl
        case hQm66 => exact fun _ _ _ h => h
        case hwm66 => rfl
        case hym66 => (intro w9 hSw; obtain ⟨k0, k1⟩ := hSw.2.cells; have k2 := (hSw.1.cell (p := ⟨b, o + k * 2, none⟩) hb).trans hp0; go_simp; (try with_reducible rfl))
        case restm66 =>
        try simp only [Act.put, List.setIfInBounds_toArray, List.set_cons_zero, List.set_cons_succ]
        refine wpAnyH_take (i := 16) (oi := ?oim67) (v := ?vm67) ?him67 (by kernel_rfl) (by kernel_rfl) (by kernel_rfl) ?hQm67 (Or.inl ⟨?hwm67, ?hym67⟩) hHeld ?restm67
        case him67 => simp only [List.getElem?_toArray, List.getElem?_cons_succ, List.getElem?_cons_zero]; rfl
        case hQm67 => exact fun _ _ _ h => h
        case hwm67 => rfl
        case hym67 => (intro w9 hSw; obtain ⟨k0, k1⟩ := hSw.2.cells; have k2 := (hSw.1.cell (p := ⟨b, o + k * 2, none⟩) hb).trans hp0; go_simp; (try with_reducible rfl))
        case restm67 =>
        try simp only [Act.put, List.setIfInBounds_toArray, List.set_cons_zero, List.set_cons_succ]
        refine wpAnyH_take (i := 17) (oi := ?oim68) (v := ?vm68) ?him68 (by kernel_rfl) (by kernel_rfl) (by kernel_rfl) ?hQm68 (Or.inl ⟨?hwm68, ?hym68⟩) hHeld ?restm68
        case him68 => simp only [List.getElem?_toArray, List.getElem?_cons_succ, List.getElem?_cons_zero]; rfl
        case hQm68 => exact fun _ _ _ h => h
        case hwm68 => rfl
        case hym68 => (intro w9 hSw; obtain ⟨k0, k1⟩ := hSw.2.cells; have k2 := (hSw.1.cell (p := ⟨b, o + k * 2, none⟩) hb).trans hp0; go_simp; (try with_reducible rfl))
        case restm68 =>
        try simp only [Act.put, List.setIfInBounds_toArray, List.set_cons_zero, List.set_cons_succ]
        refine wpAnyH_take (i := 18) (oi := ?oim69) (v := ?vm69) ?him69 (by kernel_rfl) (by kernel_rfl) (by kernel_rfl) ?hQm69 (Or.inl ⟨?hwm69, ?hym69⟩) hHeld ?restm69
        case him69 => simp only [List.getElem?_toArray, List.getElem?_cons_succ, List.getElem?_cons_zero]; rfl
        case hQm69 => exact fun _ _ _ h => h
        case hwm69 => rfl
        case hym69 => (intro w9 hSw; obtain ⟨k0, k1⟩ := hSw.2.cells; have k2 := (hSw.1.cell (p := ⟨b, o + k * 2, none⟩) hb).trans hp0; go_simp; (try with_reducible rfl))
        case restm69 =>
        try simp only [Act.put, List.setIfInBounds_toArray, List.set_cons_zero, List.set_cons_succ]
        refine wpAnyH_take (i := 19) (oi := ?oim70) (v := ?vm70) ?him70 (by kernel_rfl) (by kernel_rfl) (by kernel_rfl) ?hQm70 (Or.inl ⟨?hwm70, ?hym70⟩) hHeld ?restm70
        case him70 => simp only [List.getElem?_toArray, List.getElem?_cons_succ, List.getElem?_cons_zero]; rfl
        case hQm70 => exact fun _ _ _ h => h
        case hwm70 => rfl
        case hym70 => (intro w9 hSw; obtain ⟨k0, k1⟩ := hSw.2.cells; have k2 := (hSw.1.cell (p := ⟨b, o + k * 2, none⟩) hb).trans hp0; go_simp; (try with_reducible rfl))
        case restm70 =>
        try simp only [Act.put, List.setIfInBounds_toArray, List.set_cons_zero, List.set_cons_succ]
        refine wpAnyH_take (i := 20) (oi := ?oim71) (v := ?vm71) ?him71 (by kernel_rfl) (by kernel_rfl) (by kernel_rfl) ?hQm71 (Or.inl ⟨?hwm71, ?hym71⟩) hHeld ?restm71
        case him71 => simp only [List.getElem?_toArray, List.getElem?_cons_succ, List.getElem?_cons_zero]; rfl
        case hQm71 => exact fun _ _ _ h => h
        case hwm71 => rfl
        case hym71 => (intro w9 hSw; obtain ⟨k0, k1⟩ := hSw.2.cells; have k2 := (hSw.1.cell (p := ⟨b, o + k * 2, none⟩) hb).trans hp0; go_simp; (try with_reducible rfl))
        case restm71 =>
        try simp only [Act.put, List.setIfInBounds_toArray, List.set_cons_zero, List.set_cons_succ]
        refine wpAnyH_take (i := 21) (oi := ?oim72) (v := ?vm72) ?him72 (by kernel_rfl) (by kernel_rfl) (by kernel_rfl) ?hQm72 (Or.inl ⟨?hwm72, ?hym72⟩) hHeld ?restm72
        case him72 => simp only [List.getElem?_toArray, List.getElem?_cons_succ, List.getElem?_cons_zero]; rfl
        case hQm72 => exact fun _ _ _ h => h
        case hwm72 => rfl
        case hym72 => (intro w9 hSw; obtain ⟨k0, k1⟩ := hSw.2.cells; have k2 := (hSw.1.cell (p := ⟨b, o + k * 2, none⟩) hb).trans hp0; go_simp; (try with_reducible rfl))
        case restm72 =>
        try simp only [Act.put, List.setIfInBounds_toArray, List.set_cons_zero, List.set_cons_succ]
        refine wpAnyH_take (i := 22) (oi := ?oim73) (v := ?vm73) ?him73 (by kernel_rfl) (by kernel_rfl) (by kernel_rfl) ?hQm73 (Or.inl ⟨?hwm73, ?hym73⟩) hHeld ?restm73
        case him73 => simp only [List.getElem?_toArray, List.getElem?_cons_succ, List.getElem?_cons_zero]; rfl
        case hQm73 => exact fun _ _ _ h => h
        case hwm73 => rfl
        case hym73 => (intro w9 hSw; obtain ⟨k0, k1⟩ := hSw.2.cells; have k2 := (hSw.1.cell (p := ⟨b, o + k * 2, none⟩) hb).trans hp0; go_simp; (try with_reducible rfl))
        case restm73 =>
        try simp only [Act.put, List.setIfInBounds_toArray, List.set_cons_zero, List.set_cons_succ]
        refine wpAnyH_take (i := 23) (oi := ?oim74) (v := ?vm74) ?him74 (by kernel_rfl) (by kernel_rfl) (by kernel_rfl) ?hQm74 (Or.inl ⟨?hwm74, ?hym74⟩) hHeld ?restm74
        case him74 => simp only [List.getElem?_toArray, List.getElem?_cons_succ, List.getElem?_cons_zero]; rfl
        case hQm74 => exact fun _ _ _ h => h
        case hwm74 => rfl
        case hym74 => (intro w9 hSw; obtain ⟨k0, k1⟩ := hSw.2.cells; have k2 := (hSw.1.cell (p := ⟨b, o + k * 2, none⟩) hb).trans hp0; go_simp; (try with_reducible rfl))
        case restm74 =>
        try simp only [Act.put, List.setIfInBounds_toArray, List.set_cons_zero, List.set_cons_succ]
        refine wpAnyH_take (i := 24) (oi := ?oim75) (v := ?vm75) ?him75 (by kernel_rfl) (by kernel_rfl) (by kernel_rfl) ?hQm75 (Or.inl ⟨?hwm75, ?hym75⟩) hHeld ?restm75
        case him75 => simp only [List.getElem?_toArray, List.getElem?_cons_succ, List.getElem?_cons_zero]; rfl
        case hQm75 => exact fun _ _ _ h => h
        case hwm75 => rfl
        case hym75 => (intro w9 hSw; obtain ⟨k0, k1⟩ := hSw.2.cells; have k2 := (hSw.1.cell (p := ⟨b, o + k * 2, none⟩) hb).trans hp0; go_simp; (try with_reducible rfl))
        case restm75 =>
        try simp only [Act.put, List.setIfInBounds_toArray, List.set_cons_zero, List.set_cons_succ]
        refine wpAnyH_done (by kernel_rfl) ?_ _
        have xf := hHeld.1
        go_wp2_with fail
        go_roundw
        case rel => exact ⟨k + 1 + 1, rfl, hlt, Lib.hid (by rw [htl]; exact hd1.out), xf⟩
        case measure => simp only [intOf]; omega
    ·rw [show valueB v = false from by simpa using hv] at V
     have HV : Hid (R = false) := Lib.hid (by
      rw [← hR.out, ← hd]
      cases (l.take k).getLast?.map (·.1) <;> (unfold goodGo; rw [hn, show valueB v = false from by simpa using hv]; rfl))
     clear hR hd hn hv
     go_wp2_with fail
     refine wp_region_held_drew (S := Lab1 w wr.heap.size n v) (by kernel_rfl) (hJ0.ext (Ext.refl _).drew) (fun hHeld => ?_)
     refine wpAnyH_take (i := 0) (oi := ?oim76) (v := ?vm76) ?him76 (by kernel_rfl) (by kernel_rfl) (by kernel_rfl) ?hQm76 (Or.inl ⟨?hwm76, ?hym76⟩) hHeld ?restm76
     case him76 => simp only [List.getElem?_toArray, List.getElem?_cons_zero]; rfl
     case hQm76 => exact fun _ _ _ h => h
     case hwm76 => rfl
     case hym76 => (intro w9 hSw; obtain ⟨k0, k1⟩ := hSw.2.cells; go_simp; (try with_reducible rfl))
     case restm76 =>
     try simp only [Act.put, List.setIfInBounds_toArray, List.set_cons_zero, List.set_cons_succ]
     refine wpAnyH_take (i := 1) (oi := ?oim77) (v := ?vm77) ?him77 (by kernel_rfl) (by kernel_rfl) (by kernel_rfl) ?hQm77 (Or.inl ⟨?hwm77, ?hym77⟩) hHeld ?restm77
     case him77 => simp only [List.getElem?_toArray, List.getElem?_cons_succ, List.getElem?_cons_zero]; rfl
     case hQm77 => exact fun _ _ _ h => h
     case hwm77 => rfl
     case hym77 => (intro w9 hSw; obtain ⟨k0, k1⟩ := hSw.2.cells; go_simp; (try with_reducible rfl))
     case restm77 =>
     try simp only [Act.put, List.setIfInBounds_toArray, List.set_cons_zero, List.set_cons_succ]
     refine wpAnyH_ready (rs := [2]) (by kernel_rfl) (by simp) (AllReadyH.cons (o := ?om78) ?im78 (fun K hK => ?_) AllReadyH.nil)
     case im78 => simp only [List.getElem?_toArray, List.getElem?_cons_succ, List.getElem?_cons_zero]; rfl
     rw [if_pos (by rfl)]
     go_simp
     go_at_call 75
     (with_reducible refine (N _).mono ?_)
     rintro e wz ⟨rfl, xz⟩
     refine hK.out _ _ (hHeld.ext xz) (fun hHeld => ?_)
     clear hK K
     try simp only [List.setIfInBounds_toArray, List.set_cons_zero, List.set_cons_succ]
     refine wpAnyH_take (i := 3) (oi := ?oim79) (v := ?vm79) ?him79 (by kernel_rfl) (by kernel_rfl) (by kernel_rfl) ?hQm79 (Or.inl ⟨?hwm79, ?hym79⟩) hHeld ?restm79
     case him79 => simp only [List.getElem?_toArray, List.getElem?_cons_succ, List.getElem?_cons_zero]; rfl
     case hQm79 => exact fun _ _ _ h => h
     case hwm79 => rfl
     case hym79 => (intro w9 hSw; obtain ⟨k0, k1⟩ := hSw.2.cells; go_simp; (try with_reducible rfl))
     case restm79 =>
     try simp only [Act.put, List.setIfInBounds_toArray, List.set_cons_zero, List.set_cons_succ]
     refine wpAnyH_take (i := 4) (oi := ?oim80) (v := ?vm80) ?him80 (by kernel_rfl) (by kernel_rfl) (by kernel_rfl) ?hQm80 (Or.inl ⟨?hwm80, ?hym80⟩) hHeld ?restm80
     case him80 => simp only [List.getElem?_toArray, List.getElem?_cons_succ, List.getElem?_cons_zero]; rfl
     case hQm80 => exact fun _ _ _ h => h
     case hwm80 => rfl
     case hym80 => (intro w9 hSw; obtain ⟨k0, k1⟩ := hSw.2.cells; go_simp; (try with_reducible rfl))
     case restm80 =>
     try simp only [Act.put, List.setIfInBounds_toArray, List.set_cons_zero, List.set_cons_succ]
     refine wpAnyH_take (i := 5) (oi := ?oim81) (v := ?vm81) ?him81 (by kernel_rfl) (by kernel_rfl) (by kernel_rfl) ?hQm81 (Or.inl ⟨?hwm81, ?hym81⟩) hHeld ?restm81
     case him81 => simp only [List.getElem?_toArray, List.getElem?_cons_succ, List.getElem?_cons_zero]; rfl
     case hQm81 => exact fun _ _ _ h => h
     case hwm81 => rfl
     case hym81 => (intro w9 hSw; obtain ⟨k0, k1⟩ := hSw.2.cells; go_simp; (try with_reducible rfl))
     case restm81 =>
     try simp only [Act.put, List.setIfInBounds_toArray, List.set_cons_zero, List.set_cons_succ]
     refine wpAnyH_take (i := 6) (oi := ?oim82) (v := ?vm82) ?him82 (by kernel_rfl) (by kernel_rfl) (by kernel_rfl) ?hQm82 (Or.inl ⟨?hwm82, ?hym82⟩) hHeld ?restm82
     case him82 => simp only [List.getElem?_toArray, List.getElem?_cons_succ, List.getElem?_cons_zero]; rfl
     case hQm82 => exact fun _ _ _ h => h
     case hwm82 => rfl
     case hym82 => (intro w9 hSw; obtain ⟨k0, k1⟩ := hSw.2.cells; go_simp; (try with_reducible rfl))
     case restm82 =>
     try simp only [Act.put, List.setIfInBounds_toArray, List.set_cons_zero, List.set_cons_succ]
     refine wpAnyH_ready (rs := [7]) (by kernel_rfl) (by simp) (AllReadyH.cons (o := ?om83) ?im83 (fun K hK => ?_) AllReadyH.nil)
     case im83 => simp only [List.getElem?_toArray, List.getElem?_cons_succ, List.getElem?_cons_zero]; rfl
     rw [if_pos (by rfl)]
     go_simp
     go_at_call 77
     (with_reducible refine (V _).mono ?_)
     rintro e wz ⟨rfl, xz⟩
     refine hK.out _ _ (hHeld.ext xz) (fun hHeld => ?_)
     clear hK K
     try simp only [List.setIfInBounds_toArray, List.set_cons_zero, List.set_cons_succ]
     refine wpAnyH_take (i := 8) (oi := ?oim84) (v := ?vm84) ?him84 (by kernel_rfl) (by kernel_rfl) (by kernel_rfl) ?hQm84 (Or.inl ⟨?hwm84, ?hym84⟩) hHeld ?restm84
     case him84 => simp only [List.getElem?_toArray, List.getElem?_cons_succ, List.getElem?_cons_zero]; rfl
     case hQm84 => exact fun _ _ _ h => h
     case hwm84 => rfl
     case hym84 => (intro w9 hSw; obtain ⟨k0, k1⟩ := hSw.2.cells; go_simp; (try with_reducible rfl))
     case restm84 =>
     try simp only [Act.put, List.setIfInBounds_toArray, List.set_cons_zero, List.set_cons_succ]
     refine wpAnyH_take (i := 9) (oi := ?oim85) (v := ?vm85) ?him85 (by kernel_rfl) (by kernel_rfl) (by kernel_rfl) ?hQm85 (Or.inl ⟨?hwm85, ?hym85⟩) hHeld ?restm85
     case him85 => simp only [List.getElem?_toArray, List.getElem?_cons_succ, List.getElem?_cons_zero]; rfl
     case hQm85 => exact fun _ _ _ h => h
     case hwm85 => rfl
     case hym85 => (intro w9 hSw; obtain ⟨k0, k1⟩ := hSw.2.cells; go_simp; (try with_reducible rfl))
     case restm85 =>
     try simp only [Act.put, List.setIfInBounds_toArray, List.set_cons_zero, List.set_cons_succ]
     refine wpAnyH_take (i := 10) (oi := ?oim86) (v := ?vm86) ?him86 (by kernel_rfl) (by kernel_rfl) (by kernel_rfl) ?hQm86 (Or.inl ⟨?hwm86, ?hym86⟩) hHeld ?restm86
     case him86 => simp only [List.getElem?_toArray, List.getElem?_cons_succ, List.getElem?_cons_zero]; rfl
     case hQm86 => exact fun _ _ _ h => h
     case hwm86 => rfl
     case hym86 => (intro w9 hSw; obtain ⟨k0, k1⟩ := hSw.2.cells; go_simp; (try with_reducible rfl))
     case restm86 =>
     try simp only [Act.put, List.setIfInBounds_toArray, List.set_cons_zero, List.set_cons_succ]
     refine wpAnyH_take (i := 11) (oi := ?oim87) (v := undef) ?him87 (by kernel_rfl) (by kernel_rfl) (by kernel_rfl) ?hQm87 (Or.inr ⟨?hwm87, rfl⟩) hHeld ?restm87
     case him87 => simp only [List.getElem?_toArray, List.getElem?_cons_succ, List.getElem?_cons_zero]; rfl
     case hQm87 => exact fun _ _ _ h => h
     case hwm87 => rfl
     case restm87 =>
     try simp only [Act.put, List.setIfInBounds_toArray, List.set_cons_zero, List.set_cons_succ]
     refine wpAnyH_take (i := 12) (oi := ?oim88) (v := undef) ?him88 (by kernel_rfl) (by kernel_rfl) (by kernel_rfl) ?hQm88 (Or.inr ⟨?hwm88, rfl⟩) hHeld ?restm88
     case him88 => simp only [List.getElem?_toArray, List.getElem?_cons_succ, List.getElem?_cons_zero]; rfl
     case hQm88 => exact fun _ _ _ h => h
     case hwm88 => rfl
     case restm88 =>
     try simp only [Act.put, List.setIfInBounds_toArray, List.set_cons_zero, List.set_cons_succ]
     refine wpAnyH_take (i := 13) (oi := ?oim89) (v := undef) ?him89 (by kernel_rfl) (by kernel_rfl) (by kernel_rfl) ?hQm89 (Or.inr ⟨?hwm89, rfl⟩) hHeld ?restm89
     case him89 => simp only [List.getElem?_toArray, List.getElem?_cons_succ, List.getElem?_cons_zero]; rfl
     case hQm89 => exact fun _ _ _ h => h
     case hwm89 => rfl
     case restm89 =>
     try simp only [Act.put, List.setIfInBounds_toArray, List.set_cons_zero, List.set_cons_succ]
     refine wpAnyH_take (i := 14) (oi := ?oim90) (v := undef) ?him90 (by kernel_rfl) (by kernel_rfl) (by kernel_rfl) ?hQm90 (Or.inr ⟨?hwm90, rfl⟩) hHeld ?restm90
     case him90 => simp only [List.getElem?_toArray, List.getElem?_cons_succ, List.getElem?_cons_zero]; rfl
     case hQm90 => exact fun _ _ _ h => h
     case hwm90 => rfl
     case restm90 =>
     try simp only [Act.put, List.setIfInBounds_toArray, List.set_cons_zero, List.set_cons_succ]
     refine wpAnyH_take (i := 15) (oi := ?oim91) (v := undef) ?him91 (by kernel_rfl) (by kernel_rfl) (by kernel_rfl) ?hQm91 (Or.inr ⟨?hwm91, rfl⟩) hHeld ?restm91
     case him91 => simp only [List.getElem?_toArray, List.getElem?_cons_succ, List.getElem?_cons_zero]; rfl
     case hQm91 => exact fun _ _ _ h => h
     case hwm91 => rfl
     case restm91 =>
     try simp only [Act.put, List.setIfInBounds_toArray, List.set_cons_zero, List.set_cons_succ]
     refine wpAnyH_take (i := 16) (oi := ?oim92) (v := undef) ?him92 (by kernel_rfl) (by kernel_rfl) (by kernel_rfl) ?hQm92 (Or.inr ⟨?hwm92, rfl⟩) hHeld ?restm92
     case him92 => simp only [List.getElem?_toArray, List.getElem?_cons_succ, List.getElem?_cons_zero]; rfl
     case hQm92 => exact fun _ _ _ h => h
     case hwm92 => rfl
     case restm92 =>
     try simp only [Act.put, List.setIfInBounds_toArray, List.set_cons_zero, List.set_cons_succ]
     refine wpAnyH_take (i := 17) (oi := ?oim93) (v := undef) ?him93 (by kernel_rfl) (by kernel_rfl) (by kernel_rfl) ?hQm93 (Or.inr ⟨?hwm93, rfl⟩) hHeld ?restm93
     case him93 => simp only [List.getElem?_toArray, List.getElem?_cons_succ, List.getElem?_cons_zero]; rfl
     case hQm93 => exact fun _ _ _ h => h
     case hwm93 => rfl
     case restm93 =>
     try simp only [Act.put, List.setIfInBounds_toArray, List.set_cons_zero, List.set_cons_succ]
     refine wpAnyH_take (i := 18) (oi := ?oim94) (v := undef) ?him94 (by kernel_rfl) (by kernel_rfl) (by kernel_rfl) ?hQm94 (Or.inr ⟨?hwm94, rfl⟩) hHeld ?restm94
     case him94 => simp only [List.getElem?_toArray, List.getElem?_cons_succ, List.getElem?_cons_zero]; rfl
     case hQm94 => exact fun _ _ _ h => h
     case hwm94 => rfl
     case restm94 =>
     try simp only [Act.put, List.setIfInBounds_toArray, List.set_cons_zero, List.set_cons_succ]
     refine wpAnyH_take (i := 19) (oi := ?oim95) (v := undef) ?him95 (by kernel_rfl) (by kernel_rfl) (by kernel_rfl) ?hQm95 (Or.inr ⟨?hwm95, rfl⟩) hHeld ?restm95
     case him95 => simp only [List.getElem?_toArray, List.getElem?_cons_succ, List.getElem?_cons_zero]; rfl
     case hQm95 => exact fun _ _ _ h => h
     case hwm95 => rfl
     case restm95 =>
     try simp only [Act.put, List.setIfInBounds_toArray, List.set_cons_zero, List.set_cons_succ]
     refine wpAnyH_take (i := 20) (oi := ?oim96) (v := undef) ?him96 (by kernel_rfl) (by kernel_rfl) (by kernel_rfl) ?hQm96 (Or.inr ⟨?hwm96, rfl⟩) hHeld ?restm96
     case him96 => simp only [List.getElem?_toArray, List.getElem?_cons_succ, List.getElem?_cons_zero]; rfl
     case hQm96 => exact fun _ _ _ h => h
     case hwm96 => rfl
     case restm96 =>
     try simp only [Act.put, List.setIfInBounds_toArray, List.set_cons_zero, List.set_cons_succ]
     refine wpAnyH_take (i := 21) (oi := ?oim97) (v := undef) ?him97 (by kernel_rfl) (by kernel_rfl) (by kernel_rfl) ?hQm97 (Or.inr ⟨?hwm97, rfl⟩) hHeld ?restm97
     case him97 => simp only [List.getElem?_toArray, List.getElem?_cons_succ, List.getElem?_cons_zero]; rfl
     case hQm97 => exact fun _ _ _ h => h
     case hwm97 => rfl
     case restm97 =>
     try simp only [Act.put, List.setIfInBounds_toArray, List.set_cons_zero, List.set_cons_succ]
     refine wpAnyH_take (i := 22) (oi := ?oim98) (v := undef) ?him98 (by kernel_rfl) (by kernel_rfl) (by kernel_rfl) ?hQm98 (Or.inr ⟨?hwm98, rfl⟩) hHeld ?restm98
     case him98 => simp only [List.getElem?_toArray, List.getElem?_cons_succ, List.getElem?_cons_zero]; rfl
     case hQm98 => exact fun _ _ _ h => h
     case hwm98 => rfl
     case restm98 =>
     try simp only [Act.put, List.setIfInBounds_toArray, List.set_cons_zero, List.set_cons_succ]
     refine wpAnyH_take (i := 23) (oi := ?oim99) (v := undef) ?him99 (by kernel_rfl) (by kernel_rfl) (by kernel_rfl) ?hQm99 (Or.inr ⟨?hwm99, rfl⟩) hHeld ?restm99
     case him99 => simp only [List.getElem?_toArray, List.getElem?_cons_succ, List.getElem?_cons_zero]; rfl
     case hQm99 => exact fun _ _ _ h => h
     case hwm99 => rfl
     case restm99 =>
     try simp only [Act.put, List.setIfInBounds_toArray, List.set_cons_zero, List.set_cons_succ]
     refine wpAnyH_take (i := 24) (oi := ?oim100) (v := ?vm100) ?him100 (by kernel_rfl) (by kernel_rfl) (by kernel_rfl) ?hQm100 (Or.inl ⟨?hwm100, ?hym100⟩) hHeld ?restm100
     case him100 => simp only [List.getElem?_toArray, List.getElem?_cons_succ, List.getElem?_cons_zero]; rfl
     case hQm100 => exact fun _ _ _ h => h
     case hwm100 => rfl
     case hym100 => (intro w9 hSw; obtain ⟨k0, k1⟩ := hSw.2.cells; go_simp; (try with_reducible rfl))
     case restm100 =>
     try simp only [Act.put, List.setIfInBounds_toArray, List.set_cons_zero, List.set_cons_succ]
     refine wpAnyH_done (by kernel_rfl) ?_ _
     have xf := hHeld.1
     go_wp2_with fail
     go_ret
     exact ⟨retB HV.out.symm, xf⟩
   ·rw [show nameB n = false from by simpa using hn] at N
    have HV : Hid (R = false) := Lib.hid (by
     rw [← hR.out, ← hd]
     cases (l.take k).getLast?.map (·.1) <;> (unfold goodGo; rw [show nameB n = false from by simpa using hn]; rfl))
    clear hR hd hn V
    go_wp2_with fail
    refine wp_region_held_drew (S := Lab1 w wr.heap.size n v) (by kernel_rfl) (hJ0.ext (Ext.refl _).drew) (fun hHeld => ?_)
    refine wpAnyH_take (i := 0) (oi := ?oim101) (v := ?vm101) ?him101 (by kernel_rfl) (by kernel_rfl) (by kernel_rfl) ?hQm101 (Or.inl ⟨?hwm101, ?hym101⟩) hHeld ?restm101
    case him101 => simp only [List.getElem?_toArray, List.getElem?_cons_zero]; rfl
    case hQm101 => exact fun _ _ _ h => h
    case hwm101 => rfl
    case hym101 => (intro w9 hSw; obtain ⟨k0, k1⟩ := hSw.2.cells; go_simp; (try with_reducible rfl))
    case restm101 =>
    try simp only [Act.put, List.setIfInBounds_toArray, List.set_cons_zero, List.set_cons_succ]
    refine wpAnyH_take (i := 1) (oi := ?oim102) (v := ?vm102) ?him102 (by kernel_rfl) (by kernel_rfl) (by kernel_rfl) ?hQm102 (Or.inl ⟨?hwm102, ?hym102⟩) hHeld ?restm102
    case him102 => simp only [List.getElem?_toArray, List.getElem?_cons_succ, List.getElem?_cons_zero]; rfl
    case hQm102 => exact fun _ _ _ h => h
    case hwm102 => rfl
    case hym102 => (intro w9 hSw; obtain ⟨k0, k1⟩ := hSw.2.cells; go_simp; (try with_reducible rfl))
    case restm102 =>
    try simp only [Act.put, List.setIfInBounds_toArray, List.set_cons_zero, List.set_cons_succ]
    refine wpAnyH_ready (rs := [2]) (by kernel_rfl) (by simp) (AllReadyH.cons (o := ?om103) ?im103 (fun K hK => ?_) AllReadyH.nil)
    case im103 => simp only [List.getElem?_toArray, List.getElem?_cons_succ, List.getElem?_cons_zero]; rfl
    rw [if_pos (by rfl)]
    go_simp
    go_at_call 75
    (with_reducible refine (N _).mono ?_)
    rintro e wz ⟨rfl, xz⟩
    refine hK.out _ _ (hHeld.ext xz) (fun hHeld => ?_)
    clear hK K
    try simp only [List.setIfInBounds_toArray, List.set_cons_zero, List.set_cons_succ]
    refine wpAnyH_take (i := 3) (oi := ?oim104) (v := ?vm104) ?him104 (by kernel_rfl) (by kernel_rfl) (by kernel_rfl) ?hQm104 (Or.inl ⟨?hwm104, ?hym104⟩) hHeld ?restm104
    case him104 => simp only [List.getElem?_toArray, List.getElem?_cons_succ, List.getElem?_cons_zero]; rfl
    case hQm104 => exact fun _ _ _ h => h
    case hwm104 => rfl
    case hym104 => (intro w9 hSw; obtain ⟨k0, k1⟩ := hSw.2.cells; go_simp; (try with_reducible rfl))
    case restm104 =>
    try simp only [Act.put, List.setIfInBounds_toArray, List.set_cons_zero, List.set_cons_succ]
    refine wpAnyH_take (i := 4) (oi := ?oim105) (v := ?vm105) ?him105 (by kernel_rfl) (by kernel_rfl) (by kernel_rfl) ?hQm105 (Or.inl ⟨?hwm105, ?hym105⟩) hHeld ?restm105
    case him105 => simp only [List.getElem?_toArray, List.getElem?_cons_succ, List.getElem?_cons_zero]; rfl
    case hQm105 => exact fun _ _ _ h => h
    case hwm105 => rfl
    case hym105 => (intro w9 hSw; obtain ⟨k0, k1⟩ := hSw.2.cells; go_simp; (try with_reducible rfl))
    case restm105 =>
    try simp only [Act.put, List.setIfInBounds_toArray, List.set_cons_zero, List.set_cons_succ]
    refine wpAnyH_take (i := 5) (oi := ?oim106) (v := undef) ?him106 (by kernel_rfl) (by kernel_rfl) (by kernel_rfl) ?hQm106 (Or.inr ⟨?hwm106, rfl⟩) hHeld ?restm106
    case him106 => simp only [List.getElem?_toArray, List.getElem?_cons_succ, List.getElem?_cons_zero]; rfl
    case hQm106 => exact fun _ _ _ h => h
    case hwm106 => rfl
    case restm106 =>
    try simp only [Act.put, List.setIfInBounds_toArray, List.set_cons_zero, List.set_cons_succ]
    refine wpAnyH_take (i := 6) (oi := ?oim107) (v := undef) ?him107 (by kernel_rfl) (by kernel_rfl) (by kernel_rfl) ?hQm107 (Or.inr ⟨?hwm107, rfl⟩) hHeld ?restm107
    case him107 => simp only [List.getElem?_toArray, List.getElem?_cons_succ, List.getElem?_cons_zero]; rfl
    case hQm107 => exact fun _ _ _ h => h
    case hwm107 => rfl
    case restm107 =>
    try simp only [Act.put, List.setIfInBounds_toArray, List.set_cons_zero, List.set_cons_succ]
    refine wpAnyH_take (i := 7) (oi := ?oim108) (v := undef) ?him108 (by kernel_rfl) (by kernel_rfl) (by kernel_rfl) ?hQm108 (Or.inr ⟨?hwm108, rfl⟩) hHeld ?restm108
    case him108 => simp only [List.getElem?_toArray, List.getElem?_cons_succ, List.getElem?_cons_zero]; rfl
    case hQm108 => exact fun _ _ _ h => h
    case hwm108 => rfl
    case restm108 =>
    try simp only [Act.put, List.setIfInBounds_toArray, List.set_cons_zero, List.set_cons_succ]
    refine wpAnyH_take (i := 8) (oi := ?oim109) (v := undef) ?him109 (by kernel_rfl) (by kernel_rfl) (by kernel_rfl) ?hQm109 (Or.inr ⟨?hwm109, rfl⟩) hHeld ?restm109
    case him109 => simp only [List.getElem?_toArray, List.getElem?_cons_succ, List.getElem?_cons_zero]; rfl
    case hQm109 => exact fun _ _ _ h => h
    case hwm109 => rfl
    case restm109 =>
    try simp only [Act.put, List.setIfInBounds_toArray, List.set_cons_zero, List.set_cons_succ]
    refine wpAnyH_take (i := 9) (oi := ?oim110) (v := ?vm110) ?him110 (by kernel_rfl) (by kernel_rfl) (by kernel_rfl) ?hQm110 (Or.inl ⟨?hwm110, ?hym110⟩) hHeld ?restm110
    case him110 => simp only [List.getElem?_toArray, List.getElem?_cons_succ, List.getElem?_cons_zero]; rfl
    case hQm110 => exact fun _ _ _ h => h
    case hwm110 => rfl
    case hym110 => (intro w9 hSw; obtain ⟨k0, k1⟩ := hSw.2.cells; go_simp; (try with_reducible rfl))
    case restm110 =>
    try simp only [Act.put, List.setIfInBounds_toArray, List.set_cons_zero, List.set_cons_succ]
    refine wpAnyH_take (i := 10) (oi := ?oim111) (v := ?vm111) ?him111 (by kernel_rfl) (by kernel_rfl) (by kernel_rfl) ?hQm111 (Or.inl ⟨?hwm111, ?hym111⟩) hHeld ?restm111
    case him111 => simp only [List.getElem?_toArray, List.getElem?_cons_succ, List.getElem?_cons_zero]; rfl
    case hQm111 => exact fun _ _ _ h => h
    case hwm111 => rfl
    case hym111 => (intro w9 hSw; obtain ⟨k0, k1⟩ := hSw.2.cells; go_simp; (try with_reducible rfl))
    case restm111 =>
    try simp only [Act.put, List.setIfInBounds_toArray, List.set_cons_zero, List.set_cons_succ]
    refine wpAnyH_take (i := 11) (oi := ?oim112) (v := undef) ?him112 (by kernel_rfl) (by kernel_rfl) (by kernel_rfl) ?hQm112 (Or.inr ⟨?hwm112, rfl⟩) hHeld ?restm112
    case him112 => simp only [List.getElem?_toArray, List.getElem?_cons_succ, List.getElem?_cons_zero]; rfl
    case hQm112 => exact fun _ _ _ h => h
    case hwm112 => rfl
    case restm112 =>
    try simp only [Act.put, List.setIfInBounds_toArray, List.set_cons_zero, List.set_cons_succ]
    refine wpAnyH_take (i := 12) (oi := ?oim113) (v := undef) ?him113 (by kernel_rfl) (by kernel_rfl) (by kernel_rfl) ?hQm113 (Or.inr ⟨?hwm113, rfl⟩) hHeld ?restm113
    case him113 => simp only [List.getElem?_toArray, List.getElem?_cons_succ, List.getElem?_cons_zero]; rfl
    case hQm113 => exact fun _ _ _ h => h
    case hwm113 => rfl
    case restm113 =>
    try simp only [Act.put, List.setIfInBounds_toArray, List.set_cons_zero, List.set_cons_succ]
    refine wpAnyH_take (i := 13) (oi := ?oim114) (v := undef) ?him114 (by kernel_rfl) (by kernel_rfl) (by kernel_rfl) ?hQm114 (Or.inr ⟨?hwm114, rfl⟩) hHeld ?restm114
    case him114 => simp only [List.getElem?_toArray, List.getElem?_cons_succ, List.getElem?_cons_zero]; rfl
    case hQm114 => exact fun _ _ _ h => h
    case hwm114 => rfl
    case restm114 =>
    try simp only [Act.put, List.setIfInBounds_toArray, List.set_cons_zero, List.set_cons_succ]
    refine wpAnyH_take (i := 14) (oi := ?oim115) (v := undef) ?him115 (by kernel_rfl) (by kernel_rfl) (by kernel_rfl) ?hQm115 (Or.inr ⟨?hwm115, rfl⟩) hHeld ?restm115
    case him115 => simp only [List.getElem?_toArray, List.getElem?_cons_succ, List.getElem?_cons_zero]; rfl
    case hQm115 => exact fun _ _ _ h => h
    case hwm115 => rfl
    case restm115 =>
    try simp only [Act.put, List.setIfInBounds_toArray, List.set_cons_zero, List.set_cons_succ]
    refine wpAnyH_take (i := 15) (oi := ?oim116) (v := undef) ?him116 (by kernel_rfl) (by kernel_rfl) (by kernel_rfl) ?hQm116 (Or.inr ⟨?hwm116, rfl⟩) hHeld ?restm116
    case him116 => simp only [List.getElem?_toArray, List.getElem?_cons_succ, List.getElem?_cons_zero]; rfl
    case hQm116 => exact fun _ _ _ h => h
    case hwm116 => rfl
    case restm116 =>
    try simp only [Act.put, List.setIfInBounds_toArray, List.set_cons_zero, List.set_cons_succ]
    refine wpAnyH_take (i := 16) (oi := ?oim117) (v := undef) ?him117 (by kernel_rfl) (by kernel_rfl) (by kernel_rfl) ?hQm117 (Or.inr ⟨?hwm117, rfl⟩) hHeld ?restm117
    case him117 => simp only [List.getElem?_toArray, List.getElem?_cons_succ, List.getElem?_cons_zero]; rfl
    case hQm117 => exact fun _ _ _ h => h
    case hwm117 => rfl
    case restm117 =>
    try simp only [Act.put, List.setIfInBounds_toArray, List.set_cons_zero, List.set_cons_succ]
    refine wpAnyH_take (i := 17) (oi := ?oim118) (v := undef) ?him118 (by kernel_rfl) (by kernel_rfl) (by kernel_rfl) ?hQm118 (Or.inr ⟨?hwm118, rfl⟩) hHeld ?restm118
    case him118 => simp only [List.getElem?_toArray, List.getElem?_cons_succ, List.getElem?_cons_zero]; rfl
    case hQm118 => exact fun _ _ _ h => h
    case hwm118 => rfl
    case restm118 =>
    try simp only [Act.put, List.setIfInBounds_toArray, List.set_cons_zero, List.set_cons_succ]
    refine wpAnyH_take (i := 18) (oi := ?oim119) (v := undef) ?him119 (by kernel_rfl) (by kernel_rfl) (by kernel_rfl) ?hQm119 (Or.inr ⟨?hwm119, rfl⟩) hHeld ?restm119
    case him119 => simp only [List.getElem?_toArray, List.getElem?_cons_succ, List.getElem?_cons_zero]; rfl
    case hQm119 => exact fun _ _ _ h => h
    case hwm119 => rfl
    case restm119 =>
    try simp only [Act.put, List.setIfInBounds_toArray, List.set_cons_zero, List.set_cons_succ]
    refine wpAnyH_take (i := 19) (oi := ?oim120) (v := undef) ?him120 (by kernel_rfl) (by kernel_rfl) (by kernel_rfl) ?hQm120 (Or.inr ⟨?hwm120, rfl⟩) hHeld ?restm120
    case him120 => simp only [List.getElem?_toArray, List.getElem?_cons_succ, List.getElem?_cons_zero]; rfl
    case hQm120 => exact fun _ _ _ h => h
    case hwm120 => rfl
    case restm120 =>
    try simp only [Act.put, List.setIfInBounds_toArray, List.set_cons_zero, List.set_cons_succ]
    refine wpAnyH_take (i := 20) (oi := ?oim121) (v := undef) ?him121 (by kernel_rfl) (by kernel_rfl) (by kernel_rfl) ?hQm121 (Or.inr ⟨?hwm121, rfl⟩) hHeld ?restm121
    case him121 => simp only [List.getElem?_toArray, List.getElem?_cons_succ, List.getElem?_cons_zero]; rfl
    case hQm121 => exact fun _ _ _ h => h
    case hwm121 => rfl
    case restm121 =>
    try simp only [Act.put, List.setIfInBounds_toArray, List.set_cons_zero, List.set_cons_succ]
    refine wpAnyH_take (i := 21) (oi := ?oim122) (v := undef) ?him122 (by kernel_rfl) (by kernel_rfl) (by kernel_rfl) ?hQm122 (Or.inr ⟨?hwm122, rfl⟩) hHeld ?restm122
    case him122 => simp only [List.getElem?_toArray, List.getElem?_cons_succ, List.getElem?_cons_zero]; rfl
    case hQm122 => exact fun _ _ _ h => h
    case hwm122 => rfl
    case restm122 =>
    try simp only [Act.put, List.setIfInBounds_toArray, List.set_cons_zero, List.set_cons_succ]
    refine wpAnyH_take (i := 22) (oi := ?oim123) (v := undef) ?him123 (by kernel_rfl) (by kernel_rfl) (by kernel_rfl) ?hQm123 (Or.inr ⟨?hwm123, rfl⟩) hHeld ?restm123
    case him123 => simp only [List.getElem?_toArray, List.getElem?_cons_succ, List.getElem?_cons_zero]; rfl
    case hQm123 => exact fun _ _ _ h => h
    case hwm123 => rfl
    case restm123 =>
    try simp only [Act.put, List.setIfInBounds_toArray, List.set_cons_zero, List.set_cons_succ]
    refine wpAnyH_take (i := 23) (oi := ?oim124) (v := undef) ?him124 (by kernel_rfl) (by kernel_rfl) (by kernel_rfl) ?hQm124 (Or.inr ⟨?hwm124, rfl⟩) hHeld ?restm124
    case him124 => simp only [List.getElem?_toArray, List.getElem?_cons_succ, List.getElem?_cons_zero]; rfl
    case hQm124 => exact fun _ _ _ h => h
    case hwm124 => rfl
    case restm124 =>
    try simp only [Act.put, List.setIfInBounds_toArray, List.set_cons_zero, List.set_cons_succ]
    refine wpAnyH_take (i := 24) (oi := ?oim125) (v := ?vm125) ?him125 (by kernel_rfl) (by kernel_rfl) (by kernel_rfl) ?hQm125 (Or.inl ⟨?hwm125, ?hym125⟩) hHeld ?restm125
    case him125 => simp only [List.getElem?_toArray, List.getElem?_cons_succ, List.getElem?_cons_zero]; rfl
    case hQm125 => exact fun _ _ _ h => h
    case hwm125 => rfl
    case hym125 => (intro w9 hSw; obtain ⟨k0, k1⟩ := hSw.2.cells; go_simp; (try with_reducible rfl))
    case restm125 =>
    try simp only [Act.put, List.setIfInBounds_toArray, List.set_cons_zero, List.set_cons_succ]
    refine wpAnyH_done (by kernel_rfl) ?_ _
    have xf := hHeld.1
    go_wp2_with fail
    go_ret
    exact ⟨retB HV.out.symm, xf⟩
  ·have hd := hg.out
   rw [show l.drop k = [] from List.drop_eq_nil_of_le (by omega)] at hd
   have hr := hR.out
   rw [← hd] at hr
   have h0 : goodGo ((l.take k).getLast?.map (·.1)) [] = true := by cases (l.take k).getLast?.map (·.1) <;> rfl
   rw [h0, Bool.true_and] at hr
   have hk3 : l.length ≤ k := by omega
   replace hr := Lib.hid hr
   clear hk hd hg hR h0 hA
   go_wp2_with fail
   go_ret
   exact ⟨retB ((decide_eq_decide.2 (by omega)).trans hr.out), xr⟩
end Go.Proofs.YtjjnmefihdjglaaGreat
