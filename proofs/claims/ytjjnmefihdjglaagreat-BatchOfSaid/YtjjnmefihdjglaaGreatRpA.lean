import Derived.Test.YtjjnmefihdjglaaGreatGA
import Derived.Test.YtjjnmefihdjglaaGreatPtD
import Derived.Test.YtjjnmefihdjglaaGreatPtE
import Derived.Test.YtjjnmefihdjglaaGreatRefCmp
import Derived.Test.YtjjnmefihdjglaaGreatFamC
import Derived.Deep.DeepCutAuto
namespace Go.Proofs.YtjjnmefihdjglaaGreat
open Go.RowKit
set_option maxRecDepth 100000 in
theorem number_any (a b : Int) (w : World) : Calls Tryz.prog 63 #[.int .i64 a, .int .i64 b] w fun e w' => e = .returned (.int .i64 (cmpI a b)) ∧ w' = w := by
 unfold cmpI
 by_cases h : a < b
 ·rw [if_pos h]
  go_enter Tryz.func63, Tryz.ntmps63
  go_wp2_with fail
  go_ret
  exact ⟨rfl, rfl⟩
 ·rw [if_neg h]
  by_cases h2 : b < a
  ·rw [if_pos h2]
   go_enter Tryz.func63, Tryz.ntmps63
   go_wp2_with fail
   go_ret
   exact ⟨rfl, rfl⟩
  ·rw [if_neg h2]
   go_enter Tryz.func63, Tryz.ntmps63
   go_wp2_with fail
   go_ret
   exact ⟨rfl, rfl⟩
def fl (b : Bool) : Int := if b then 1 else 0
set_option maxRecDepth 100000 in
theorem flag_any (b : Bool) (w : World) : Calls Tryz.prog 62 #[.bool b] w fun e w' => e = .returned (.int .i64 (fl b)) ∧ w' = w := by
 cases b
 ·go_enter Tryz.func62, Tryz.ntmps62
  go_wp2_with fail
  go_ret
  exact ⟨rfl, rfl⟩
 ·go_enter Tryz.func62, Tryz.ntmps62
  go_wp2_with fail
  go_ret
  exact ⟨rfl, rfl⟩
theorem fl_cmp (a b : Bool) : cmpI (fl a) (fl b) = cmpB a b := by cases a <;> cases b <;> decide
set_option maxRecDepth 100000 in
theorem text_any (a b : ByteArray) (w : World) : Calls Tryz.prog 92 #[.string a, .string b] w fun e w' => e = .returned (.int .i64 (cmpS a b)) ∧ w' = w := by
 have l1 := less_is a b
 have l2 := less_is b a
 have an := cmpS_cmp.anti a b
 have l3 := same_is a b
 rcases cmpS_c3 a b with h | h | h
 ·rw [h] at l1 ⊢
  replace l1 : Op.bytesLess a.toList b.toList = true := l1
  clear l2 l3 an h
  go_enter Tryz.func92, Tryz.ntmps92
  go_wp2_with fail
  go_ret
  exact ⟨rfl, rfl⟩
 ·rw [h] at l1 l3 an ⊢
  rw [an] at l2
  replace l1 : Op.bytesLess a.toList b.toList = false := l1
  replace l2 : Op.bytesLess b.toList a.toList = false := l2
  replace l3 : (a.toList == b.toList) = true := l3
  clear an h
  go_enter Tryz.func92, Tryz.ntmps92
  go_wp2_with fail
  go_ret
  exact ⟨rfl, rfl⟩
 ·rw [h] at l1 l3 an ⊢
  rw [an] at l2
  replace l1 : Op.bytesLess a.toList b.toList = false := l1
  replace l2 : Op.bytesLess b.toList a.toList = true := l2
  replace l3 : (a.toList == b.toList) = false := l3
  clear an h
  go_enter Tryz.func92, Tryz.ntmps92
  go_wp2_with fail
  go_ret
  exact ⟨rfl, rfl⟩
theorem cmpLs_end1 (m : List (ByteArray × ByteArray)) : cmpLs [] m = cmpI 0 (m.length : Int) := by
 cases m with
 | nil => rfl
 | cons x m =>
   unfold cmpLs cmpI
   rw [if_pos (by simp only [List.length_cons]; omega)]
theorem cmpLs_end2 (l : List (ByteArray × ByteArray)) : cmpLs l [] = cmpI (l.length : Int) 0 := by
 cases l with
 | nil => rfl
 | cons x m =>
   unfold cmpLs cmpI
   rw [if_neg (by simp only [List.length_cons]; omega), if_pos (by simp only [List.length_cons]; omega)]
theorem cmpI_shift (a b k : Int) : cmpI (a - k) (b - k) = cmpI a b := by
 unfold cmpI
 by_cases h : a < b
 ·rw [if_pos h, if_pos (by omega)]
 ·rw [if_neg h, if_neg (by omega)]
  by_cases h2 : b < a
  ·rw [if_pos h2, if_pos (by omega)]
  ·rw [if_neg h2, if_neg (by omega)]
set_option maxHeartbeats 8000000 in
set_option maxRecDepth 100000 in
theorem rLabCmp_any (a1 a2 : Option Addr) (c1 c2 : Nat) (l m : List (ByteArray × ByteArray)) (w : World) (hl : (l.length : Int) ≤ 9223372036854775807) (hm : (m.length : Int) ≤ 9223372036854775807) (h1 : LabA a1 l w) (h2 : LabA a2 m w) :
  Calls Tryz.prog 61 #[.slice a1 l.length c1, .slice a2 m.length c2] w fun e w' => e = .returned (.int .i64 (cmpLs l m)) ∧ Ext w w' := by
 obtain ⟨R, hR⟩ : ∃ R, cmpLs l m = R := ⟨_, rfl⟩
 rw [hR]
 go_enter Tryz.func61, Tryz.ntmps61
 go_wp2_with fail
 go_loopw [5] (fun i wr => ∃ k : Nat, i = .int .i64 k ∧ k ≤ l.length ∧ k ≤ m.length ∧ Hid (cmpLs (l.drop k) (m.drop k) = R) ∧ Ext w wr) (fun i _ => l.length - (intOf i).toNat)
 case atStart => exact ⟨0, rfl, Nat.zero_le _, Nat.zero_le _, Lib.hid hR, Ext.refl _⟩
 case round =>
  obtain ⟨k, rfl, hk, hk2, hz, xr⟩ := hrel
  have hd := hz.out
  clear hz hR
  by_cases hlt : k < l.length
  ·by_cases hlt2 : k < m.length
   ·rw [List.drop_eq_getElem_cons hlt, List.drop_eq_getElem_cons hlt2] at hd
    unfold cmpLs at hd
    obtain ⟨b1, o1, rfl, hb1, hL⟩ := h1 (by omega)
    obtain ⟨b2, o2, rfl, hb2, hM⟩ := h2 (by omega)
    obtain ⟨q0, q1⟩ := hL k hlt
    obtain ⟨s0, s1⟩ := hM k hlt2
    obtain ⟨x1, x2, ex⟩ : ∃ x1 x2, l[k] = (x1, x2) := ⟨_, _, rfl⟩
    obtain ⟨y1, y2, ey⟩ : ∃ y1 y2, m[k] = (y1, y2) := ⟨_, _, rfl⟩
    rw [ex] at hd q0 q1
    rw [ey] at hd s0 s1
    dsimp only at q0 q1 s0 s1
    have f0 : ∀ W, Ext wr W → W.cell? ⟨b1, o1 + k * 2, none⟩ = some (.string x1) ∧ W.cell? ⟨b2, o2 + k * 2, none⟩ = some (.string y1) := fun W x => ⟨((xr.trans x).cell hb1).trans q0, ((xr.trans x).cell hb2).trans s0⟩
    have f1 : ∀ W, Ext wr W → W.cell? ⟨b1, o1 + k * 2 + 1, none⟩ = some (.string x2) ∧ W.cell? ⟨b2, o2 + k * 2 + 1, none⟩ = some (.string y2) := fun W x => ⟨((xr.trans x).cell hb1).trans q1, ((xr.trans x).cell hb2).trans s1⟩
    have T1 := fun w => text_any x1 y1 w
    have T2 := fun w => text_any x2 y2 w
    unfold cmpL at hd
    dsimp only at hd
    have o1' : orL [cmpS x1 y1, cmpS x2 y2] = if cmpS x1 y1 ≠ 0 then cmpS x1 y1 else cmpS x2 y2 := by rw [orL_two]; rfl
    rw [o1'] at hd
    generalize cmpS x1 y1 = A1 at *
    generalize cmpS x2 y2 = A2 at *
    have i1 : (k : Int) < (l.length : Int) := by omega
    have i2 : (k : Int) < (m.length : Int) := by omega
    obtain ⟨z0, z1⟩ := f0 wr.drew (Ext.refl wr).drew
    clear h1 h2 hL hM ex ey o1' q0 q1 s0 s1
    by_cases e1 : A1 = 0
    ·subst e1
     simp only [ne_eq, not_true_eq_false, if_false] at hd
     by_cases e2 : A2 = 0
     ·subst e2
      simp only [not_true_eq_false, if_false] at hd
      replace hd := Lib.hid hd
      go_wp2_with fail
      go_region_held3 (fun w' => w'.cell? ⟨b1, o1 + k * 2, none⟩ = some (.string x1) ∧ w'.cell? ⟨b2, o2 + k * 2, none⟩ = some (.string y1)) (first | exact f0 _ (Ext.refl wr).drew | go_keep) (first
       | (go_at_call 92; (with_reducible refine (T1 _).mono ?_); rintro e wz ⟨rfl, rfl⟩))
      go_wp2_with fail
      go_region_held3 (fun w' => w'.cell? ⟨b1, o1 + k * 2 + 1, none⟩ = some (.string x2) ∧ w'.cell? ⟨b2, o2 + k * 2 + 1, none⟩ = some (.string y2)) (first | exact f1 _ (Ext.refl wr).drew.drew | go_keep) (first
       | (go_at_call 92; (with_reducible refine (T2 _).mono ?_); rintro e wz ⟨rfl, rfl⟩))
      go_wp2_with fail
      go_roundw
      case rel => exact ⟨k + 1, rfl, hlt, hlt2, hd, xr.trans (Ext.refl wr).drew.drew⟩
      case measure => simp only [intOf]; omega
     ·rw [if_pos e2] at hd
      subst hd
      go_wp2_with fail
      go_region_held3 (fun w' => w'.cell? ⟨b1, o1 + k * 2, none⟩ = some (.string x1) ∧ w'.cell? ⟨b2, o2 + k * 2, none⟩ = some (.string y1)) (first | exact f0 _ (Ext.refl wr).drew | go_keep) (first
       | (go_at_call 92; (with_reducible refine (T1 _).mono ?_); rintro e wz ⟨rfl, rfl⟩))
      go_wp2_with fail
      go_region_held3 (fun w' => w'.cell? ⟨b1, o1 + k * 2 + 1, none⟩ = some (.string x2) ∧ w'.cell? ⟨b2, o2 + k * 2 + 1, none⟩ = some (.string y2)) (first | exact f1 _ (Ext.refl wr).drew.drew | go_keep) (first
       | (go_at_call 92; (with_reducible refine (T2 _).mono ?_); rintro e wz ⟨rfl, rfl⟩))
      go_wp2_with fail
      go_ret
      exact ⟨rfl, xr.trans (Ext.refl wr).drew.drew⟩
    ·rw [if_pos e1] at hd
     rw [if_pos e1] at hd
     subst hd
     go_wp2_with fail
     go_region_held3 (fun w' => w'.cell? ⟨b1, o1 + k * 2, none⟩ = some (.string x1) ∧ w'.cell? ⟨b2, o2 + k * 2, none⟩ = some (.string y1)) (first | exact f0 _ (Ext.refl wr).drew | go_keep) (first
      | (go_at_call 92; (with_reducible refine (T1 _).mono ?_); rintro e wz ⟨rfl, rfl⟩))
     go_wp2_with fail
     go_ret
     exact ⟨rfl, xr.trans (Ext.refl wr).drew⟩
   ·have hk3 : k = m.length := by omega
    rw [show m.drop k = [] from List.drop_eq_nil_of_le (by omega), cmpLs_end2, List.length_drop] at hd
    have hR2 : cmpI (l.length : Int) (m.length : Int) = R := by
     rw [← hd, ← cmpI_shift (l.length : Int) (m.length : Int) (k : Int)]
     congr 1 <;> omega
    have NU := fun w => number_any (l.length : Int) (m.length : Int) w
    rw [hR2] at NU
    have i1 : (k : Int) < (l.length : Int) := by omega
    have i2 : ¬ (k : Int) < (m.length : Int) := by omega
    clear hd hR2 h1 h2 hk3
    go_wp2_with fail
    (with_reducible refine (NU _).mono ?_)
    rintro e w1 ⟨rfl, rfl⟩
    go_wp2_with fail
    go_ret
    exact ⟨rfl, xr⟩
  ·have hk3 : k = l.length := by omega
   rw [show l.drop k = [] from List.drop_eq_nil_of_le (by omega), cmpLs_end1, List.length_drop] at hd
   have hR2 : cmpI (l.length : Int) (m.length : Int) = R := by
    rw [← hd, ← cmpI_shift (l.length : Int) (m.length : Int) (k : Int)]
    congr 1 <;> omega
   have NU := fun w => number_any (l.length : Int) (m.length : Int) w
   rw [hR2] at NU
   have i1 : ¬ (k : Int) < (l.length : Int) := by omega
   clear hd hR2 h1 h2 hk3
   go_wp2_with fail
   (with_reducible refine (NU _).mono ?_)
   rintro e w1 ⟨rfl, rfl⟩
   go_wp2_with fail
   go_ret
   exact ⟨rfl, xr⟩
end Go.Proofs.YtjjnmefihdjglaaGreat
