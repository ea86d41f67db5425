import Derived.Test.YtjjnmefihdjglaaGreatPtE
namespace Go.Proofs.YtjjnmefihdjglaaGreat
open Go.RowKit
def rolesOf (k : Int) : List Int := if k = 0 ∨ k = 1 ∨ k = 2 then [0] else if k = 3 then [1, 3, 4] else if k = 4 then [2, 3, 4] else []
def IntsV (v : Value) (l : List Int) (w : World) : Prop := (l = [] ∧ v = .slice none 0 0) ∨ ∃ b, v = .slice (some ⟨b, 0, none⟩) l.length l.length ∧ b < w.heap.size ∧ IntsAt b 0 l w
theorem IntsV.ext {v : Value} {l : List Int} {w w' : World} (h : IntsV v l w) (x : Ext w w') : IntsV v l w' := by
 rcases h with h | ⟨b, h1, h2, h3⟩
 ·exact .inl h
 ·exact .inr ⟨b, h1, Nat.lt_of_lt_of_le h2 x.size, fun i hi => (x.cell h2).trans (h3 i hi)⟩
set_option maxRecDepth 100000 in
theorem Roles_any (F : Nat) (k : Int) (w : World) (hF : F = 109) :
  Calls Tryz.prog F #[.int .i64 k] w fun e w' => (∃ v, e = .returned v ∧ IntsV v (rolesOf k) w') ∧ Ext w w' := by
 subst hF
 have mk : ∀ (l : List Int) (o : Obj), o = .cells (l.map fun x => Value.int .i64 x).toArray 3 → ∀ n c, n = l.length → c = l.length → (∃ v, Ending.returned (.slice (some ⟨w.heap.size, 0, none⟩) n c) = .returned v ∧ IntsV v l (w.alloc o)) ∧ Ext w (w.alloc o) := by
  rintro l o rfl n c rfl rfl
  exact ⟨⟨_, rfl, .inr ⟨w.heap.size, rfl, by rw [heap_size_alloc]; omega, IntsAt.mk l (heap_last _ _)⟩⟩, (Ext.refl _).alloc _⟩
 unfold rolesOf
 by_cases h0 : k = 0
 ·subst h0
  rw [if_pos (by decide)]
  go_enter Tryz.func109, Tryz.ntmps109
  go_wp2_with fail
  go_ret
  exact mk [0] _ rfl _ _ rfl rfl
 ·by_cases h1 : k = 1
  ·subst h1
   rw [if_pos (by decide)]
   go_enter Tryz.func109, Tryz.ntmps109
   go_wp2_with fail
   go_ret
   exact mk [0] _ rfl _ _ rfl rfl
  ·by_cases h2 : k = 2
   ·subst h2
    rw [if_pos (by decide)]
    go_enter Tryz.func109, Tryz.ntmps109
    go_wp2_with fail
    go_ret
    exact mk [0] _ rfl _ _ rfl rfl
   ·rw [if_neg (by omega)]
    by_cases h3 : k = 3
    ·subst h3
     rw [if_pos rfl]
     go_enter Tryz.func109, Tryz.ntmps109
     go_wp2_with fail
     go_ret
     exact mk [1, 3, 4] _ rfl _ _ rfl rfl
    ·rw [if_neg h3]
     by_cases h4 : k = 4
     ·subst h4
      rw [if_pos rfl]
      go_enter Tryz.func109, Tryz.ntmps109
      go_wp2_with fail
      go_ret
      exact mk [2, 3, 4] _ rfl _ _ rfl rfl
     ·rw [if_neg h4]
      go_enter Tryz.func109, Tryz.ntmps109
      go_wp2_with fail
      go_ret
      exact ⟨⟨_, rfl, .inl ⟨rfl, rfl⟩⟩, Ext.refl _⟩
def idxI (x : Int) : Nat → List Int → Int
 | _, [] => -1
 | k, y :: l => if y = x then k else idxI x (k + 1) l
theorem idxI_in (x : Int) : ∀ (l : List Int) (k : Nat), (0 ≤ idxI x k l) = (x ∈ l)
 | [], k => by simp [idxI]
 | y :: l, k => by
   unfold idxI
   by_cases h : y = x
   ·rw [if_pos h]; simp [h]
   ·rw [if_neg h, idxI_in x l (k + 1)]; simp [Ne.symm h]
set_option maxHeartbeats 1000000 in
set_option maxRecDepth 100000 in
theorem Index_any (b o c : Nat) (l : List Int) (x : Int) (w : World) (hl : l.length < 1000000) (hc : IntsAt b o l w) :
  Calls Tryz.prog 129 #[.slice (some ⟨b, o, none⟩) l.length c, .int .i64 x] w fun e w' => e = .returned (.int .i64 (idxI x 0 l)) ∧ Ext w w' := by
 obtain ⟨R, hR⟩ : ∃ R, idxI x 0 l = R := ⟨_, rfl⟩
 rw [hR]
 go_enter Tryz.func129, Tryz.ntmps129
 go_wp2_with fail
 go_loopw [8] (fun i wr => ∃ k : Nat, i = .int .i64 k ∧ k ≤ l.length ∧ Hid (idxI x k (l.drop k) = R) ∧ wr = w) (fun i _ => l.length - (intOf i).toNat)
 case atStart => exact ⟨0, rfl, Nat.zero_le _, Lib.hid hR, rfl⟩
 case round =>
  obtain ⟨k, rfl, hk, hz, rfl⟩ := hrel
  by_cases hlt : k < l.length
  ·have g := hc k hlt
   have hd := hz.out
   rw [List.drop_eq_getElem_cons hlt] at hd
   unfold idxI at hd
   generalize l[k] = y at *
   clear hz hR
   by_cases h0 : y = x
   ·subst h0
    rw [if_pos rfl] at hd
    replace hd := Lib.hid hd
    go_wp2_with fail
    go_ret
    exact ⟨retI hd.out, Ext.refl _⟩
   ·rw [if_neg h0] at hd
    have h1 : ¬ x = y := fun e => h0 e.symm
    replace hd := Lib.hid hd
    go_wp2_with fail
    go_roundw
    case rel => exact ⟨k + 1, rfl, hlt, hd, by first | trivial | rfl⟩
    case measure => simp only [intOf]; omega
  ·have hd := hz.out
   rw [List.drop_eq_nil_of_le (by omega)] at hd
   have hk2 : l.length ≤ k := by omega
   replace hd : Hid ((-1 : Int) = R) := Lib.hid hd
   clear hz hR hk
   go_wp2_with fail
   go_ret
   exact ⟨retI hd.out, Ext.refl _⟩
set_option maxRecDepth 100000 in
theorem Index_nil (x : Int) (w : World) :
  Calls Tryz.prog 129 #[.slice none 0 0, .int .i64 x] w fun e w' => e = .returned (.int .i64 (-1)) ∧ Ext w w' := by
 go_enter Tryz.func129, Tryz.ntmps129
 go_wp2_with fail
 refine wp_loop_rounds 1 ?_
 rw [rounds_succ]
 go_wp2_with fail
 go_ret
 exact ⟨rfl, Ext.refl _⟩
theorem Contains_any (v : Value) (l : List Int) (x : Int) (w : World) (hl : l.length < 1000000) (h : IntsV v l w) :
  Calls Tryz.prog 108 #[v, .int .i64 x] w fun e w' => e = .returned (.bool (decide (x ∈ l))) ∧ Ext w w' := by
 rcases h with ⟨rfl, rfl⟩ | ⟨b, rfl, hb, h⟩
 ·go_enter Tryz.func108, Tryz.ntmps108
  go_wp2_with fail
  (with_reducible refine (Index_nil _ _).mono ?_)
  rintro e w1 ⟨rfl, x1⟩
  go_wp2_with fail
  go_ret
  exact ⟨by simp, x1⟩
 ·have C := fun W (hw : IntsAt b 0 l W) => Index_any b 0 l.length l x W hl hw
  have e1 := idxI_in x l 0
  obtain ⟨i, hi⟩ : ∃ i, idxI x 0 l = i := ⟨_, rfl⟩
  rw [hi] at C e1
  have HV : Hid (decide (x ∈ l) = decide (0 ≤ i)) := Lib.hid (by simp only [e1])
  clear hi e1
  go_enter Tryz.func108, Tryz.ntmps108
  go_wp2_with fail
  (with_reducible refine (C _ h).mono ?_)
  rintro e w1 ⟨rfl, x1⟩
  go_wp2_with fail
  go_ret
  exact ⟨retB HV.out.symm, x1⟩
def Pt1 (w : World) (b : Nat) (v : Value) (r : Int) (f : Bool) (M S m s : Int) (t : Bool) (T : Int) (W : World) : Prop := Ext w W ∧ PtIn b v r f M S m s t T W
theorem Pt1.ext {w : World} {b : Nat} {v : Value} {r : Int} {f : Bool} {M S m s : Int} {t : Bool} {T : Int} {W W' : World} (h : Pt1 w b v r f M S m s t T W) (x : Ext W W') : Pt1 w b v r f M S m s t T W' := ⟨h.1.trans x, h.2.ext x⟩
def goodPt (k : Int) (l : List (ByteArray × ByteArray)) (r : Int) (f : Bool) (M S m s : Int) (t : Bool) (T : Int) : Bool :=
 decide (r ∈ rolesOf k) && (goodLs l && (boundB r f M S && (valB k r m s && (timeB t T && freeB l r))))
set_option maxHeartbeats 20000000 in
set_option maxRecDepth 100000 in
theorem ptGood_any (k : Int) (a : Option Addr) (c : Nat) (l : List (ByteArray × ByteArray)) (r : Int) (f : Bool) (M S m s : Int) (t : Bool) (T : Int) (w : World)
  (hl : (l.length : Int) ≤ 9223372036854775807) (hA : LabA a l w) (hz : ∀ x ∈ l, x.1.size ≤ 9223372036854775807 ∧ x.2.size ≤ 9223372036854775807) (i1 : I64 M) (j1 : I64 S) (i2 : I64 m) (j2 : I64 s) :
  Calls Tryz.prog 79 #[.int .i64 k, ptV (.slice a l.length c) r f M S m s t T] w fun e w' => e = .returned (.bool (goodPt k l r f M S m s t T)) ∧ Ext w w' := by
 have R1 := fun W => Roles_any _ k W rfl
 have R2 := fun v W h => Contains_any v (rolesOf k) r W (by unfold rolesOf; (repeat' split) <;> decide) h
 have R3 := fun W (x : Ext w W) => labGood_any a c l W hl (hA.ext x) hz
 have R4 := fun W => isBound_any (.slice a l.length c) r f M S m s t T W i1 j1
 have R5 := fun W => isValue_any k (.slice a l.length c) r f M S m s t T W i2 j2
 have R6 := fun W => isTime_any (.slice a l.length c) r f M S m s t T W
 have R7 := fun W (x : Ext w W) => isFree_any a c l r f M S m s t T W hl (hA.ext x)
 unfold goodPt
 generalize decide (r ∈ rolesOf k) = b1 at *
 generalize goodLs l = b2 at *
 generalize boundB r f M S = b3 at *
 generalize valB k r m s = b4 at *
 generalize timeB t T = b5 at *
 generalize freeB l r = b6 at *
 generalize rolesOf k = RL at *
 obtain ⟨v, hv⟩ : ∃ v, Value.slice a l.length c = v := ⟨_, rfl⟩
 rw [hv] at R3 R4 R5 R6 R7
 rw [hv]
 unfold ptV at *
 clear hv hA hl hz i1 j1 i2 j2
 have hJ0 : Pt1 w w.heap.size v r f M S m s t T (w.alloc (.cells #[v, .int .i64 r, .bool f, .int .i64 M, .int .i64 S, .int .i64 m, .int .i64 s, .bool t, .int .i64 T] 40)) := ⟨(Ext.refl _).alloc _, heap_last _ _⟩
 cases b1
 ·go_enter Tryz.func79, Tryz.ntmps79
  go_wp2_with fail
  refine wp_region_held_drew (S := Pt1 w w.heap.size v r f M S m s t T) (by kernel_rfl) (hJ0.ext (Ext.refl _).drew) (fun hHeld => ?_)
  refine wpAnyH_take (i := 0) (oi := ?oim1) (v := ?vm1) ?him1 (by kernel_rfl) (by kernel_rfl) (by kernel_rfl) ?hQm1 (Or.inl ⟨?hwm1, ?hym1⟩) hHeld ?restm1
  case him1 => simp only [List.getElem?_toArray, List.getElem?_cons_zero]; rfl
  case hQm1 => exact fun _ _ _ h => h
  case hwm1 => rfl
  case hym1 => (intro w9 hSw; obtain ⟨k0, k1, k2, k3, k4, k5, k6, k7, k8⟩ := hSw.2.cells; go_simp; (try with_reducible rfl))
  case restm1 =>
  try simp only [Act.put, List.setIfInBounds_toArray, List.set_cons_zero, List.set_cons_succ]
  refine wpAnyH_take (i := 2) (oi := ?oim2) (v := ?vm2) ?him2 (by kernel_rfl) (by kernel_rfl) (by kernel_rfl) ?hQm2 (Or.inl ⟨?hwm2, ?hym2⟩) hHeld ?restm2
  case him2 => simp only [List.getElem?_toArray, List.getElem?_cons_succ, List.getElem?_cons_zero]; rfl
  case hQm2 => exact fun _ _ _ h => h
  case hwm2 => rfl
  case hym2 => (intro w9 hSw; obtain ⟨k0, k1, k2, k3, k4, k5, k6, k7, k8⟩ := hSw.2.cells; go_simp; (try with_reducible rfl))
  case restm2 =>
  try simp only [Act.put, List.setIfInBounds_toArray, List.set_cons_zero, List.set_cons_succ]
  refine wpAnyH_take (i := 3) (oi := ?oim3) (v := ?vm3) ?him3 (by kernel_rfl) (by kernel_rfl) (by kernel_rfl) ?hQm3 (Or.inl ⟨?hwm3, ?hym3⟩) hHeld ?restm3
  case him3 => simp only [List.getElem?_toArray, List.getElem?_cons_succ, List.getElem?_cons_zero]; rfl
  case hQm3 => exact fun _ _ _ h => h
  case hwm3 => rfl
  case hym3 => (intro w9 hSw; obtain ⟨k0, k1, k2, k3, k4, k5, k6, k7, k8⟩ := hSw.2.cells; go_simp; (try with_reducible rfl))
  case restm3 =>
  try simp only [Act.put, List.setIfInBounds_toArray, List.set_cons_zero, List.set_cons_succ]
  refine wpAnyH_ready (rs := [1]) (by kernel_rfl) (by simp) (AllReadyH.cons (o := ?om4) ?im4 (fun K hK => ?_) AllReadyH.nil)
  case im4 => simp only [List.getElem?_toArray, List.getElem?_cons_succ, List.getElem?_cons_zero]; rfl
  rw [if_pos (by rfl)]
  go_simp
  go_at_call 109
  (with_reducible refine (R1 _).mono ?_)
  rintro e wz ⟨⟨u, rfl, hU⟩, xz⟩
  refine hK.out _ _ (hHeld.ext xz) (fun hHeld => ?_)
  clear hK K
  try simp only [List.setIfInBounds_toArray, List.set_cons_zero, List.set_cons_succ]
  refine wpAnyH_ready (rs := [4]) (by kernel_rfl) (by simp) (AllReadyH.cons (o := ?om5) ?im5 (fun K hK => ?_) AllReadyH.nil)
  case im5 => simp only [List.getElem?_toArray, List.getElem?_cons_succ, List.getElem?_cons_zero]; rfl
  rw [if_pos (by rfl)]
  go_simp
  go_at_call 108
  (with_reducible refine (R2 _ _ ?hc0).mono ?_)
  case hc0 => exact hU
  rintro e wz ⟨rfl, xz⟩
  refine hK.out _ _ (hHeld.ext xz) (fun hHeld => ?_)
  clear hK K
  try simp only [List.setIfInBounds_toArray, List.set_cons_zero, List.set_cons_succ]
  refine wpAnyH_take (i := 5) (oi := ?oim6) (v := ?vm6) ?him6 (by kernel_rfl) (by kernel_rfl) (by kernel_rfl) ?hQm6 (Or.inl ⟨?hwm6, ?hym6⟩) hHeld ?restm6
  case him6 => simp only [List.getElem?_toArray, List.getElem?_cons_succ, List.getElem?_cons_zero]; rfl
  case hQm6 => exact fun _ _ _ h => h
  case hwm6 => rfl
  case hym6 => (intro w9 hSw; obtain ⟨k0, k1, k2, k3, k4, k5, k6, k7, k8⟩ := hSw.2.cells; go_simp; (try with_reducible rfl))
  case restm6 =>
  try simp only [Act.put, List.setIfInBounds_toArray, List.set_cons_zero, List.set_cons_succ]
  refine wpAnyH_take (i := 6) (oi := ?oim7) (v := undef) ?him7 (by kernel_rfl) (by kernel_rfl) (by kernel_rfl) ?hQm7 (Or.inr ⟨?hwm7, rfl⟩) hHeld ?restm7
  case him7 => simp only [List.getElem?_toArray, List.getElem?_cons_succ, List.getElem?_cons_zero]; rfl
  case hQm7 => exact fun _ _ _ h => h
  case hwm7 => rfl
  case restm7 =>
  try simp only [Act.put, List.setIfInBounds_toArray, List.set_cons_zero, List.set_cons_succ]
  refine wpAnyH_take (i := 7) (oi := ?oim8) (v := undef) ?him8 (by kernel_rfl) (by kernel_rfl) (by kernel_rfl) ?hQm8 (Or.inr ⟨?hwm8, rfl⟩) hHeld ?restm8
  case him8 => simp only [List.getElem?_toArray, List.getElem?_cons_succ, List.getElem?_cons_zero]; rfl
  case hQm8 => exact fun _ _ _ h => h
  case hwm8 => rfl
  case restm8 =>
  try simp only [Act.put, List.setIfInBounds_toArray, List.set_cons_zero, List.set_cons_succ]
  refine wpAnyH_take (i := 8) (oi := ?oim9) (v := undef) ?him9 (by kernel_rfl) (by kernel_rfl) (by kernel_rfl) ?hQm9 (Or.inr ⟨?hwm9, rfl⟩) hHeld ?restm9
  case him9 => simp only [List.getElem?_toArray, List.getElem?_cons_succ, List.getElem?_cons_zero]; rfl
  case hQm9 => exact fun _ _ _ h => h
  case hwm9 => rfl
  case restm9 =>
  try simp only [Act.put, List.setIfInBounds_toArray, List.set_cons_zero, List.set_cons_succ]
  refine wpAnyH_take (i := 9) (oi := ?oim10) (v := ?vm10) ?him10 (by kernel_rfl) (by kernel_rfl) (by kernel_rfl) ?hQm10 (Or.inl ⟨?hwm10, ?hym10⟩) hHeld ?restm10
  case him10 => simp only [List.getElem?_toArray, List.getElem?_cons_succ, List.getElem?_cons_zero]; rfl
  case hQm10 => exact fun _ _ _ h => h
  case hwm10 => rfl
  case hym10 => (intro w9 hSw; obtain ⟨k0, k1, k2, k3, k4, k5, k6, k7, k8⟩ := hSw.2.cells; go_simp; (try with_reducible rfl))
  case restm10 =>
  try simp only [Act.put, List.setIfInBounds_toArray, List.set_cons_zero, List.set_cons_succ]
  refine wpAnyH_take (i := 10) (oi := ?oim11) (v := ?vm11) ?him11 (by kernel_rfl) (by kernel_rfl) (by kernel_rfl) ?hQm11 (Or.inl ⟨?hwm11, ?hym11⟩) hHeld ?restm11
  case him11 => simp only [List.getElem?_toArray, List.getElem?_cons_succ, List.getElem?_cons_zero]; rfl
  case hQm11 => exact fun _ _ _ h => h
  case hwm11 => rfl
  case hym11 => (intro w9 hSw; obtain ⟨k0, k1, k2, k3, k4, k5, k6, k7, k8⟩ := hSw.2.cells; go_simp; (try with_reducible rfl))
  case restm11 =>
  try simp only [Act.put, List.setIfInBounds_toArray, List.set_cons_zero, List.set_cons_succ]
  refine wpAnyH_take (i := 11) (oi := ?oim12) (v := undef) ?him12 (by kernel_rfl) (by kernel_rfl) (by kernel_rfl) ?hQm12 (Or.inr ⟨?hwm12, rfl⟩) hHeld ?restm12
  case him12 => simp only [List.getElem?_toArray, List.getElem?_cons_succ, List.getElem?_cons_zero]; rfl
  case hQm12 => exact fun _ _ _ h => h
  case hwm12 => rfl
  case restm12 =>
  try simp only [Act.put, List.setIfInBounds_toArray, List.set_cons_zero, List.set_cons_succ]
  refine wpAnyH_take (i := 12) (oi := ?oim13) (v := undef) ?him13 (by kernel_rfl) (by kernel_rfl) (by kernel_rfl) ?hQm13 (Or.inr ⟨?hwm13, rfl⟩) hHeld ?restm13
  case him13 => simp only [List.getElem?_toArray, List.getElem?_cons_succ, List.getElem?_cons_zero]; rfl
  case hQm13 => exact fun _ _ _ h => h
  case hwm13 => rfl
  case restm13 =>
  try simp only [Act.put, List.setIfInBounds_toArray, List.set_cons_zero, List.set_cons_succ]
  refine wpAnyH_take (i := 13) (oi := ?oim14) (v := ?vm14) ?him14 (by kernel_rfl) (by kernel_rfl) (by kernel_rfl) ?hQm14 (Or.inl ⟨?hwm14, ?hym14⟩) hHeld ?restm14
  case him14 => simp only [List.getElem?_toArray, List.getElem?_cons_succ, List.getElem?_cons_zero]; rfl
  case hQm14 => exact fun _ _ _ h => h
  case hwm14 => rfl
  case hym14 => (intro w9 hSw; obtain ⟨k0, k1, k2, k3, k4, k5, k6, k7, k8⟩ := hSw.2.cells; go_simp; (try with_reducible rfl))
  case restm14 =>
  try simp only [Act.put, List.setIfInBounds_toArray, List.set_cons_zero, List.set_cons_succ]
  refine wpAnyH_take (i := 14) (oi := ?oim15) (v := ?vm15) ?him15 (by kernel_rfl) (by kernel_rfl) (by kernel_rfl) ?hQm15 (Or.inl ⟨?hwm15, ?hym15⟩) hHeld ?restm15
  case him15 => simp only [List.getElem?_toArray, List.getElem?_cons_succ, List.getElem?_cons_zero]; rfl
  case hQm15 => exact fun _ _ _ h => h
  case hwm15 => rfl
  case hym15 => (intro w9 hSw; obtain ⟨k0, k1, k2, k3, k4, k5, k6, k7, k8⟩ := hSw.2.cells; go_simp; (try with_reducible rfl))
  case restm15 =>
  try simp only [Act.put, List.setIfInBounds_toArray, List.set_cons_zero, List.set_cons_succ]
  refine wpAnyH_take (i := 15) (oi := ?oim16) (v := undef) ?him16 (by kernel_rfl) (by kernel_rfl) (by kernel_rfl) ?hQm16 (Or.inr ⟨?hwm16, rfl⟩) hHeld ?restm16
  case him16 => simp only [List.getElem?_toArray, List.getElem?_cons_succ, List.getElem?_cons_zero]; rfl
  case hQm16 => exact fun _ _ _ h => h
  case hwm16 => rfl
  case restm16 =>
  try simp only [Act.put, List.setIfInBounds_toArray, List.set_cons_zero, List.set_cons_succ]
  refine wpAnyH_take (i := 16) (oi := ?oim17) (v := undef) ?him17 (by kernel_rfl) (by kernel_rfl) (by kernel_rfl) ?hQm17 (Or.inr ⟨?hwm17, rfl⟩) hHeld ?restm17
  case him17 => simp only [List.getElem?_toArray, List.getElem?_cons_succ, List.getElem?_cons_zero]; rfl
  case hQm17 => exact fun _ _ _ h => h
  case hwm17 => rfl
  case restm17 =>
  try simp only [Act.put, List.setIfInBounds_toArray, List.set_cons_zero, List.set_cons_succ]
  refine wpAnyH_take (i := 17) (oi := ?oim18) (v := undef) ?him18 (by kernel_rfl) (by kernel_rfl) (by kernel_rfl) ?hQm18 (Or.inr ⟨?hwm18, rfl⟩) hHeld ?restm18
  case him18 => simp only [List.getElem?_toArray, List.getElem?_cons_succ, List.getElem?_cons_zero]; rfl
  case hQm18 => exact fun _ _ _ h => h
  case hwm18 => rfl
  case restm18 =>
  try simp only [Act.put, List.setIfInBounds_toArray, List.set_cons_zero, List.set_cons_succ]
  refine wpAnyH_take (i := 18) (oi := ?oim19) (v := ?vm19) ?him19 (by kernel_rfl) (by kernel_rfl) (by kernel_rfl) ?hQm19 (Or.inl ⟨?hwm19, ?hym19⟩) hHeld ?restm19
  case him19 => simp only [List.getElem?_toArray, List.getElem?_cons_succ, List.getElem?_cons_zero]; rfl
  case hQm19 => exact fun _ _ _ h => h
  case hwm19 => rfl
  case hym19 => (intro w9 hSw; obtain ⟨k0, k1, k2, k3, k4, k5, k6, k7, k8⟩ := hSw.2.cells; go_simp; (try with_reducible rfl))
  case restm19 =>
  try simp only [Act.put, List.setIfInBounds_toArray, List.set_cons_zero, List.set_cons_succ]
  refine wpAnyH_take (i := 19) (oi := ?oim20) (v := ?vm20) ?him20 (by kernel_rfl) (by kernel_rfl) (by kernel_rfl) ?hQm20 (Or.inl ⟨?hwm20, ?hym20⟩) hHeld ?restm20
  case him20 => simp only [List.getElem?_toArray, List.getElem?_cons_succ, List.getElem?_cons_zero]; rfl
  case hQm20 => exact fun _ _ _ h => h
  case hwm20 => rfl
  case hym20 => (intro w9 hSw; obtain ⟨k0, k1, k2, k3, k4, k5, k6, k7, k8⟩ := hSw.2.cells; go_simp; (try with_reducible rfl))
  case restm20 =>
  try simp only [Act.put, List.setIfInBounds_toArray, List.set_cons_zero, List.set_cons_succ]
  refine wpAnyH_take (i := 20) (oi := ?oim21) (v := undef) ?him21 (by kernel_rfl) (by kernel_rfl) (by kernel_rfl) ?hQm21 (Or.inr ⟨?hwm21, rfl⟩) hHeld ?restm21
  case him21 => simp only [List.getElem?_toArray, List.getElem?_cons_succ, List.getElem?_cons_zero]; rfl
  case hQm21 => exact fun _ _ _ h => h
  case hwm21 => rfl
  case restm21 =>
  try simp only [Act.put, List.setIfInBounds_toArray, List.set_cons_zero, List.set_cons_succ]
  refine wpAnyH_take (i := 21) (oi := ?oim22) (v := undef) ?him22 (by kernel_rfl) (by kernel_rfl) (by kernel_rfl) ?hQm22 (Or.inr ⟨?hwm22, rfl⟩) hHeld ?restm22
  case him22 => simp only [List.getElem?_toArray, List.getElem?_cons_succ, List.getElem?_cons_zero]; rfl
  case hQm22 => exact fun _ _ _ h => h
  case hwm22 => rfl
  case restm22 =>
  try simp only [Act.put, List.setIfInBounds_toArray, List.set_cons_zero, List.set_cons_succ]
  refine wpAnyH_take (i := 22) (oi := ?oim23) (v := ?vm23) ?him23 (by kernel_rfl) (by kernel_rfl) (by kernel_rfl) ?hQm23 (Or.inl ⟨?hwm23, ?hym23⟩) hHeld ?restm23
  case him23 => simp only [List.getElem?_toArray, List.getElem?_cons_succ, List.getElem?_cons_zero]; rfl
  case hQm23 => exact fun _ _ _ h => h
  case hwm23 => rfl
  case hym23 => (intro w9 hSw; obtain ⟨k0, k1, k2, k3, k4, k5, k6, k7, k8⟩ := hSw.2.cells; go_simp; (try with_reducible rfl))
  case restm23 =>
  try simp only [Act.put, List.setIfInBounds_toArray, List.set_cons_zero, List.set_cons_succ]
  refine wpAnyH_take (i := 23) (oi := ?oim24) (v := ?vm24) ?him24 (by kernel_rfl) (by kernel_rfl) (by kernel_rfl) ?hQm24 (Or.inl ⟨?hwm24, ?hym24⟩) hHeld ?restm24
  case him24 => simp only [List.getElem?_toArray, List.getElem?_cons_succ, List.getElem?_cons_zero]; rfl
  case hQm24 => exact fun _ _ _ h => h
  case hwm24 => rfl
  case hym24 => (intro w9 hSw; obtain ⟨k0, k1, k2, k3, k4, k5, k6, k7, k8⟩ := hSw.2.cells; go_simp; (try with_reducible rfl))
  case restm24 =>
  try simp only [Act.put, List.setIfInBounds_toArray, List.set_cons_zero, List.set_cons_succ]
  refine wpAnyH_take (i := 24) (oi := ?oim25) (v := undef) ?him25 (by kernel_rfl) (by kernel_rfl) (by kernel_rfl) ?hQm25 (Or.inr ⟨?hwm25, rfl⟩) hHeld ?restm25
  case him25 => simp only [List.getElem?_toArray, List.getElem?_cons_succ, List.getElem?_cons_zero]; rfl
  case hQm25 => exact fun _ _ _ h => h
  case hwm25 => rfl
  case restm25 =>
  try simp only [Act.put, List.setIfInBounds_toArray, List.set_cons_zero, List.set_cons_succ]
  refine wpAnyH_take (i := 25) (oi := ?oim26) (v := undef) ?him26 (by kernel_rfl) (by kernel_rfl) (by kernel_rfl) ?hQm26 (Or.inr ⟨?hwm26, rfl⟩) hHeld ?restm26
  case him26 => simp only [List.getElem?_toArray, List.getElem?_cons_succ, List.getElem?_cons_zero]; rfl
  case hQm26 => exact fun _ _ _ h => h
  case hwm26 => rfl
  case restm26 =>
  try simp only [Act.put, List.setIfInBounds_toArray, List.set_cons_zero, List.set_cons_succ]
  refine wpAnyH_take (i := 26) (oi := ?oim27) (v := ?vm27) ?him27 (by kernel_rfl) (by kernel_rfl) (by kernel_rfl) ?hQm27 (Or.inl ⟨?hwm27, ?hym27⟩) hHeld ?restm27
  case him27 => simp only [List.getElem?_toArray, List.getElem?_cons_succ, List.getElem?_cons_zero]; rfl
  case hQm27 => exact fun _ _ _ h => h
  case hwm27 => rfl
  case hym27 => (intro w9 hSw; obtain ⟨k0, k1, k2, k3, k4, k5, k6, k7, k8⟩ := hSw.2.cells; go_simp; (try with_reducible rfl))
  case restm27 =>
  try simp only [Act.put, List.setIfInBounds_toArray, List.set_cons_zero, List.set_cons_succ]
  refine wpAnyH_take (i := 27) (oi := ?oim28) (v := ?vm28) ?him28 (by kernel_rfl) (by kernel_rfl) (by kernel_rfl) ?hQm28 (Or.inl ⟨?hwm28, ?hym28⟩) hHeld ?restm28
  case him28 => simp only [List.getElem?_toArray, List.getElem?_cons_succ, List.getElem?_cons_zero]; rfl
  case hQm28 => exact fun _ _ _ h => h
  case hwm28 => rfl
  case hym28 => (intro w9 hSw; obtain ⟨k0, k1, k2, k3, k4, k5, k6, k7, k8⟩ := hSw.2.cells; go_simp; (try with_reducible rfl))
  case restm28 =>
  try simp only [Act.put, List.setIfInBounds_toArray, List.set_cons_zero, List.set_cons_succ]
  refine wpAnyH_done (by kernel_rfl) ?_ _
  have xf := hHeld.1
  go_wp2_with fail
  go_ret
  exact ⟨by first | rfl | simp, xf⟩
 ·cases b2
  ·go_enter Tryz.func79, Tryz.ntmps79
   go_wp2_with fail
   refine wp_region_held_drew (S := Pt1 w w.heap.size v r f M S m s t T) (by kernel_rfl) (hJ0.ext (Ext.refl _).drew) (fun hHeld => ?_)
   refine wpAnyH_take (i := 0) (oi := ?oim29) (v := ?vm29) ?him29 (by kernel_rfl) (by kernel_rfl) (by kernel_rfl) ?hQm29 (Or.inl ⟨?hwm29, ?hym29⟩) hHeld ?restm29
   case him29 => simp only [List.getElem?_toArray, List.getElem?_cons_zero]; rfl
   case hQm29 => exact fun _ _ _ h => h
   case hwm29 => rfl
   case hym29 => (intro w9 hSw; obtain ⟨k0, k1, k2, k3, k4, k5, k6, k7, k8⟩ := hSw.2.cells; go_simp; (try with_reducible rfl))
   case restm29 =>
   try simp only [Act.put, List.setIfInBounds_toArray, List.set_cons_zero, List.set_cons_succ]
   refine wpAnyH_take (i := 2) (oi := ?oim30) (v := ?vm30) ?him30 (by kernel_rfl) (by kernel_rfl) (by kernel_rfl) ?hQm30 (Or.inl ⟨?hwm30, ?hym30⟩) hHeld ?restm30
   case him30 => simp only [List.getElem?_toArray, List.getElem?_cons_succ, List.getElem?_cons_zero]; rfl
   case hQm30 => exact fun _ _ _ h => h
   case hwm30 => rfl
   case hym30 => (intro w9 hSw; obtain ⟨k0, k1, k2, k3, k4, k5, k6, k7, k8⟩ := hSw.2.cells; go_simp; (try with_reducible rfl))
   case restm30 =>
   try simp only [Act.put, List.setIfInBounds_toArray, List.set_cons_zero, List.set_cons_succ]
   refine wpAnyH_take (i := 3) (oi := ?oim31) (v := ?vm31) ?him31 (by kernel_rfl) (by kernel_rfl) (by kernel_rfl) ?hQm31 (Or.inl ⟨?hwm31, ?hym31⟩) hHeld ?restm31
   case him31 => simp only [List.getElem?_toArray, List.getElem?_cons_succ, List.getElem?_cons_zero]; rfl
   case hQm31 => exact fun _ _ _ h => h
   case hwm31 => rfl
   case hym31 => (intro w9 hSw; obtain ⟨k0, k1, k2, k3, k4, k5, k6, k7, k8⟩ := hSw.2.cells; go_simp; (try with_reducible rfl))
   case restm31 =>
   try simp only [Act.put, List.setIfInBounds_toArray, List.set_cons_zero, List.set_cons_succ]
   refine wpAnyH_ready (rs := [1]) (by kernel_rfl) (by simp) (AllReadyH.cons (o := ?om32) ?im32 (fun K hK => ?_) AllReadyH.nil)
   case im32 => simp only [List.getElem?_toArray, List.getElem?_cons_succ, List.getElem?_cons_zero]; rfl
   rw [if_pos (by rfl)]
   go_simp
   go_at_call 109
   (with_reducible refine (R1 _).mono ?_)
   rintro e wz ⟨⟨u, rfl, hU⟩, xz⟩
   refine hK.out _ _ (hHeld.ext xz) (fun hHeld => ?_)
   clear hK K
   try simp only [List.setIfInBounds_toArray, List.set_cons_zero, List.set_cons_succ]
   refine wpAnyH_ready (rs := [4]) (by kernel_rfl) (by simp) (AllReadyH.cons (o := ?om33) ?im33 (fun K hK => ?_) AllReadyH.nil)
   case im33 => simp only [List.getElem?_toArray, List.getElem?_cons_succ, List.getElem?_cons_zero]; rfl
   rw [if_pos (by rfl)]
   go_simp
   go_at_call 108
   (with_reducible refine (R2 _ _ ?hc1).mono ?_)
   case hc1 => exact hU
   rintro e wz ⟨rfl, xz⟩
   refine hK.out _ _ (hHeld.ext xz) (fun hHeld => ?_)
   clear hK K
   try simp only [List.setIfInBounds_toArray, List.set_cons_zero, List.set_cons_succ]
   refine wpAnyH_take (i := 5) (oi := ?oim34) (v := ?vm34) ?him34 (by kernel_rfl) (by kernel_rfl) (by kernel_rfl) ?hQm34 (Or.inl ⟨?hwm34, ?hym34⟩) hHeld ?restm34
   case him34 => simp only [List.getElem?_toArray, List.getElem?_cons_succ, List.getElem?_cons_zero]; rfl
   case hQm34 => exact fun _ _ _ h => h
   case hwm34 => rfl
   case hym34 => (intro w9 hSw; obtain ⟨k0, k1, k2, k3, k4, k5, k6, k7, k8⟩ := hSw.2.cells; go_simp; (try with_reducible rfl))
   case restm34 =>
   try simp only [Act.put, List.setIfInBounds_toArray, List.set_cons_zero, List.set_cons_succ]
   refine wpAnyH_take (i := 6) (oi := ?oim35) (v := ?vm35) ?him35 (by kernel_rfl) (by kernel_rfl) (by kernel_rfl) ?hQm35 (Or.inl ⟨?hwm35, ?hym35⟩) hHeld ?restm35
   case him35 => simp only [List.getElem?_toArray, List.getElem?_cons_succ, List.getElem?_cons_zero]; rfl
   case hQm35 => exact fun _ _ _ h => h
   case hwm35 => rfl
   case hym35 => (intro w9 hSw; obtain ⟨k0, k1, k2, k3, k4, k5, k6, k7, k8⟩ := hSw.2.cells; go_simp; (try with_reducible rfl))
   case restm35 =>
   try simp only [Act.put, List.setIfInBounds_toArray, List.set_cons_zero, List.set_cons_succ]
   refine wpAnyH_take (i := 7) (oi := ?oim36) (v := ?vm36) ?him36 (by kernel_rfl) (by kernel_rfl) (by kernel_rfl) ?hQm36 (Or.inl ⟨?hwm36, ?hym36⟩) hHeld ?restm36
   case him36 => simp only [List.getElem?_toArray, List.getElem?_cons_succ, List.getElem?_cons_zero]; rfl
   case hQm36 => exact fun _ _ _ h => h
   case hwm36 => rfl
   case hym36 => (intro w9 hSw; obtain ⟨k0, k1, k2, k3, k4, k5, k6, k7, k8⟩ := hSw.2.cells; go_simp; (try with_reducible rfl))
   case restm36 =>
   try simp only [Act.put, List.setIfInBounds_toArray, List.set_cons_zero, List.set_cons_succ]
   have hHe := hHeld.1
   refine wpAnyH_ready (rs := [8]) (by kernel_rfl) (by simp) (AllReadyH.cons (o := ?om37) ?im37 (fun K hK => ?_) AllReadyH.nil)
   case im37 => simp only [List.getElem?_toArray, List.getElem?_cons_succ, List.getElem?_cons_zero]; rfl
   rw [if_pos (by rfl)]
   go_simp
   go_at_call 110
   (with_reducible refine (R3 _ hHe).mono ?_)
   rintro e wz ⟨rfl, xz⟩
   refine hK.out _ _ (hHeld.ext xz) (fun hHeld => ?_)
   clear hK K
   try simp only [List.setIfInBounds_toArray, List.set_cons_zero, List.set_cons_succ]
   clear hHe
   refine wpAnyH_take (i := 9) (oi := ?oim38) (v := ?vm38) ?him38 (by kernel_rfl) (by kernel_rfl) (by kernel_rfl) ?hQm38 (Or.inl ⟨?hwm38, ?hym38⟩) hHeld ?restm38
   case him38 => simp only [List.getElem?_toArray, List.getElem?_cons_succ, List.getElem?_cons_zero]; rfl
   case hQm38 => exact fun _ _ _ h => h
   case hwm38 => rfl
   case hym38 => (intro w9 hSw; obtain ⟨k0, k1, k2, k3, k4, k5, k6, k7, k8⟩ := hSw.2.cells; go_simp; (try with_reducible rfl))
   case restm38 =>
   try simp only [Act.put, List.setIfInBounds_toArray, List.set_cons_zero, List.set_cons_succ]
   refine wpAnyH_take (i := 10) (oi := ?oim39) (v := ?vm39) ?him39 (by kernel_rfl) (by kernel_rfl) (by kernel_rfl) ?hQm39 (Or.inl ⟨?hwm39, ?hym39⟩) hHeld ?restm39
   case him39 => simp only [List.getElem?_toArray, List.getElem?_cons_succ, List.getElem?_cons_zero]; rfl
   case hQm39 => exact fun _ _ _ h => h
   case hwm39 => rfl
   case hym39 => (intro w9 hSw; obtain ⟨k0, k1, k2, k3, k4, k5, k6, k7, k8⟩ := hSw.2.cells; go_simp; (try with_reducible rfl))
   case restm39 =>
   try simp only [Act.put, List.setIfInBounds_toArray, List.set_cons_zero, List.set_cons_succ]
   refine wpAnyH_take (i := 11) (oi := ?oim40) (v := undef) ?him40 (by kernel_rfl) (by kernel_rfl) (by kernel_rfl) ?hQm40 (Or.inr ⟨?hwm40, rfl⟩) hHeld ?restm40
   case him40 => simp only [List.getElem?_toArray, List.getElem?_cons_succ, List.getElem?_cons_zero]; rfl
   case hQm40 => exact fun _ _ _ h => h
   case hwm40 => rfl
   case restm40 =>
   try simp only [Act.put, List.setIfInBounds_toArray, List.set_cons_zero, List.set_cons_succ]
   refine wpAnyH_take (i := 12) (oi := ?oim41) (v := undef) ?him41 (by kernel_rfl) (by kernel_rfl) (by kernel_rfl) ?hQm41 (Or.inr ⟨?hwm41, rfl⟩) hHeld ?restm41
   case him41 => simp only [List.getElem?_toArray, List.getElem?_cons_succ, List.getElem?_cons_zero]; rfl
   case hQm41 => exact fun _ _ _ h => h
   case hwm41 => rfl
   case restm41 =>
   try simp only [Act.put, List.setIfInBounds_toArray, List.set_cons_zero, List.set_cons_succ]
   refine wpAnyH_take (i := 13) (oi := ?oim42) (v := ?vm42) ?him42 (by kernel_rfl) (by kernel_rfl) (by kernel_rfl) ?hQm42 (Or.inl ⟨?hwm42, ?hym42⟩) hHeld ?restm42
   case him42 => simp only [List.getElem?_toArray, List.getElem?_cons_succ, List.getElem?_cons_zero]; rfl
   case hQm42 => exact fun _ _ _ h => h
   case hwm42 => rfl
   case hym42 => (intro w9 hSw; obtain ⟨k0, k1, k2, k3, k4, k5, k6, k7, k8⟩ := hSw.2.cells; go_simp; (try with_reducible rfl))
   case restm42 =>
   try simp only [Act.put, List.setIfInBounds_toArray, List.set_cons_zero, List.set_cons_succ]
   refine wpAnyH_take (i := 14) (oi := ?oim43) (v := ?vm43) ?him43 (by kernel_rfl) (by kernel_rfl) (by kernel_rfl) ?hQm43 (Or.inl ⟨?hwm43, ?hym43⟩) hHeld ?restm43
   case him43 => simp only [List.getElem?_toArray, List.getElem?_cons_succ, List.getElem?_cons_zero]; rfl
   case hQm43 => exact fun _ _ _ h => h
   case hwm43 => rfl
   case hym43 => (intro w9 hSw; obtain ⟨k0, k1, k2, k3, k4, k5, k6, k7, k8⟩ := hSw.2.cells; go_simp; (try with_reducible rfl))
   case restm43 =>
   try simp only [Act.put, List.setIfInBounds_toArray, List.set_cons_zero, List.set_cons_succ]
   refine wpAnyH_take (i := 15) (oi := ?oim44) (v := undef) ?him44 (by kernel_rfl) (by kernel_rfl) (by kernel_rfl) ?hQm44 (Or.inr ⟨?hwm44, rfl⟩) hHeld ?restm44
   case him44 => simp only [List.getElem?_toArray, List.getElem?_cons_succ, List.getElem?_cons_zero]; rfl
   case hQm44 => exact fun _ _ _ h => h
   case hwm44 => rfl
   case restm44 =>
   try simp only [Act.put, List.setIfInBounds_toArray, List.set_cons_zero, List.set_cons_succ]
   refine wpAnyH_take (i := 16) (oi := ?oim45) (v := undef) ?him45 (by kernel_rfl) (by kernel_rfl) (by kernel_rfl) ?hQm45 (Or.inr ⟨?hwm45, rfl⟩) hHeld ?restm45
   case him45 => simp only [List.getElem?_toArray, List.getElem?_cons_succ, List.getElem?_cons_zero]; rfl
   case hQm45 => exact fun _ _ _ h => h
   case hwm45 => rfl
   case restm45 =>
   try simp only [Act.put, List.setIfInBounds_toArray, List.set_cons_zero, List.set_cons_succ]
   refine wpAnyH_take (i := 17) (oi := ?oim46) (v := undef) ?him46 (by kernel_rfl) (by kernel_rfl) (by kernel_rfl) ?hQm46 (Or.inr ⟨?hwm46, rfl⟩) hHeld ?restm46
   case him46 => simp only [List.getElem?_toArray, List.getElem?_cons_succ, List.getElem?_cons_zero]; rfl
   case hQm46 => exact fun _ _ _ h => h
   case hwm46 => rfl
   case restm46 =>
   try simp only [Act.put, List.setIfInBounds_toArray, List.set_cons_zero, List.set_cons_succ]
   refine wpAnyH_take (i := 18) (oi := ?oim47) (v := ?vm47) ?him47 (by kernel_rfl) (by kernel_rfl) (by kernel_rfl) ?hQm47 (Or.inl ⟨?hwm47, ?hym47⟩) hHeld ?restm47
   case him47 => simp only [List.getElem?_toArray, List.getElem?_cons_succ, List.getElem?_cons_zero]; rfl
   case hQm47 => exact fun _ _ _ h => h
   case hwm47 => rfl
   case hym47 => (intro w9 hSw; obtain ⟨k0, k1, k2, k3, k4, k5, k6, k7, k8⟩ := hSw.2.cells; go_simp; (try with_reducible rfl))
   case restm47 =>
   try simp only [Act.put, List.setIfInBounds_toArray, List.set_cons_zero, List.set_cons_succ]
   refine wpAnyH_take (i := 19) (oi := ?oim48) (v := ?vm48) ?him48 (by kernel_rfl) (by kernel_rfl) (by kernel_rfl) ?hQm48 (Or.inl ⟨?hwm48, ?hym48⟩) hHeld ?restm48
   case him48 => simp only [List.getElem?_toArray, List.getElem?_cons_succ, List.getElem?_cons_zero]; rfl
   case hQm48 => exact fun _ _ _ h => h
   case hwm48 => rfl
   case hym48 => (intro w9 hSw; obtain ⟨k0, k1, k2, k3, k4, k5, k6, k7, k8⟩ := hSw.2.cells; go_simp; (try with_reducible rfl))
   case restm48 =>
   try simp only [Act.put, List.setIfInBounds_toArray, List.set_cons_zero, List.set_cons_succ]
   refine wpAnyH_take (i := 20) (oi := ?oim49) (v := undef) ?him49 (by kernel_rfl) (by kernel_rfl) (by kernel_rfl) ?hQm49 (Or.inr ⟨?hwm49, rfl⟩) hHeld ?restm49
   case him49 => simp only [List.getElem?_toArray, List.getElem?_cons_succ, List.getElem?_cons_zero]; rfl
   case hQm49 => exact fun _ _ _ h => h
   case hwm49 => rfl
   case restm49 =>
   try simp only [Act.put, List.setIfInBounds_toArray, List.set_cons_zero, List.set_cons_succ]
   refine wpAnyH_take (i := 21) (oi := ?oim50) (v := undef) ?him50 (by kernel_rfl) (by kernel_rfl) (by kernel_rfl) ?hQm50 (Or.inr ⟨?hwm50, rfl⟩) hHeld ?restm50
   case him50 => simp only [List.getElem?_toArray, List.getElem?_cons_succ, List.getElem?_cons_zero]; rfl
   case hQm50 => exact fun _ _ _ h => h
   case hwm50 => rfl
   case restm50 =>
   try simp only [Act.put, List.setIfInBounds_toArray, List.set_cons_zero, List.set_cons_succ]
   refine wpAnyH_take (i := 22) (oi := ?oim51) (v := ?vm51) ?him51 (by kernel_rfl) (by kernel_rfl) (by kernel_rfl) ?hQm51 (Or.inl ⟨?hwm51, ?hym51⟩) hHeld ?restm51
   case him51 => simp only [List.getElem?_toArray, List.getElem?_cons_succ, List.getElem?_cons_zero]; rfl
   case hQm51 => exact fun _ _ _ h => h
   case hwm51 => rfl
   case hym51 => (intro w9 hSw; obtain ⟨k0, k1, k2, k3, k4, k5, k6, k7, k8⟩ := hSw.2.cells; go_simp; (try with_reducible rfl))
   case restm51 =>
   try simp only [Act.put, List.setIfInBounds_toArray, List.set_cons_zero, List.set_cons_succ]
   refine wpAnyH_take (i := 23) (oi := ?oim52) (v := ?vm52) ?him52 (by kernel_rfl) (by kernel_rfl) (by kernel_rfl) ?hQm52 (Or.inl ⟨?hwm52, ?hym52⟩) hHeld ?restm52
   case him52 => simp only [List.getElem?_toArray, List.getElem?_cons_succ, List.getElem?_cons_zero]; rfl
   case hQm52 => exact fun _ _ _ h => h
   case hwm52 => rfl
   case hym52 => (intro w9 hSw; obtain ⟨k0, k1, k2, k3, k4, k5, k6, k7, k8⟩ := hSw.2.cells; go_simp; (try with_reducible rfl))
   case restm52 =>
   try simp only [Act.put, List.setIfInBounds_toArray, List.set_cons_zero, List.set_cons_succ]
   refine wpAnyH_take (i := 24) (oi := ?oim53) (v := undef) ?him53 (by kernel_rfl) (by kernel_rfl) (by kernel_rfl) ?hQm53 (Or.inr ⟨?hwm53, rfl⟩) hHeld ?restm53
   case him53 => simp only [List.getElem?_toArray, List.getElem?_cons_succ, List.getElem?_cons_zero]; rfl
   case hQm53 => exact fun _ _ _ h => h
   case hwm53 => rfl
   case restm53 =>
   try simp only [Act.put, List.setIfInBounds_toArray, List.set_cons_zero, List.set_cons_succ]
   refine wpAnyH_take (i := 25) (oi := ?oim54) (v := undef) ?him54 (by kernel_rfl) (by kernel_rfl) (by kernel_rfl) ?hQm54 (Or.inr ⟨?hwm54, rfl⟩) hHeld ?restm54
   case him54 => simp only [List.getElem?_toArray, List.getElem?_cons_succ, List.getElem?_cons_zero]; rfl
   case hQm54 => exact fun _ _ _ h => h
   case hwm54 => rfl
   case restm54 =>
   try simp only [Act.put, List.setIfInBounds_toArray, List.set_cons_zero, List.set_cons_succ]
   refine wpAnyH_take (i := 26) (oi := ?oim55) (v := ?vm55) ?him55 (by kernel_rfl) (by kernel_rfl) (by kernel_rfl) ?hQm55 (Or.inl ⟨?hwm55, ?hym55⟩) hHeld ?restm55
   case him55 => simp only [List.getElem?_toArray, List.getElem?_cons_succ, List.getElem?_cons_zero]; rfl
   case hQm55 => exact fun _ _ _ h => h
   case hwm55 => rfl
   case hym55 => (intro w9 hSw; obtain ⟨k0, k1, k2, k3, k4, k5, k6, k7, k8⟩ := hSw.2.cells; go_simp; (try with_reducible rfl))
   case restm55 =>
   try simp only [Act.put, List.setIfInBounds_toArray, List.set_cons_zero, List.set_cons_succ]
   refine wpAnyH_take (i := 27) (oi := ?oim56) (v := ?vm56) ?him56 (by kernel_rfl) (by kernel_rfl) (by kernel_rfl) ?hQm56 (Or.inl ⟨?hwm56, ?hym56⟩) hHeld ?restm56
   case him56 => simp only [List.getElem?_toArray, List.getElem?_cons_succ, List.getElem?_cons_zero]; rfl
   case hQm56 => exact fun _ _ _ h => h
   case hwm56 => rfl
   case hym56 => (intro w9 hSw; obtain ⟨k0, k1, k2, k3, k4, k5, k6, k7, k8⟩ := hSw.2.cells; go_simp; (try with_reducible rfl))
   case restm56 =>
   try simp only [Act.put, List.setIfInBounds_toArray, List.set_cons_zero, List.set_cons_succ]
   refine wpAnyH_done (by kernel_rfl) ?_ _
   have xf := hHeld.1
   go_wp2_with fail
   go_ret
   exact ⟨by first | rfl | simp, xf⟩
  ·cases b3
   ·go_enter Tryz.func79, Tryz.ntmps79
    go_wp2_with fail
    refine wp_region_held_drew (S := Pt1 w w.heap.size v r f M S m s t T) (by kernel_rfl) (hJ0.ext (Ext.refl _).drew) (fun hHeld => ?_)
    refine wpAnyH_take (i := 0) (oi := ?oim57) (v := ?vm57) ?him57 (by kernel_rfl) (by kernel_rfl) (by kernel_rfl) ?hQm57 (Or.inl ⟨?hwm57, ?hym57⟩) hHeld ?restm57
    case him57 => simp only [List.getElem?_toArray, List.getElem?_cons_zero]; rfl
    case hQm57 => exact fun _ _ _ h => h
    case hwm57 => rfl
    case hym57 => (intro w9 hSw; obtain ⟨k0, k1, k2, k3, k4, k5, k6, k7, k8⟩ := hSw.2.cells; go_simp; (try with_reducible rfl))
    case restm57 =>
    try simp only [Act.put, List.setIfInBounds_toArray, List.set_cons_zero, List.set_cons_succ]
    refine wpAnyH_take (i := 2) (oi := ?oim58) (v := ?vm58) ?him58 (by kernel_rfl) (by kernel_rfl) (by kernel_rfl) ?hQm58 (Or.inl ⟨?hwm58, ?hym58⟩) hHeld ?restm58
    case him58 => simp only [List.getElem?_toArray, List.getElem?_cons_succ, List.getElem?_cons_zero]; rfl
    case hQm58 => exact fun _ _ _ h => h
    case hwm58 => rfl
    case hym58 => (intro w9 hSw; obtain ⟨k0, k1, k2, k3, k4, k5, k6, k7, k8⟩ := hSw.2.cells; go_simp; (try with_reducible rfl))
    case restm58 =>
    try simp only [Act.put, List.setIfInBounds_toArray, List.set_cons_zero, List.set_cons_succ]
    refine wpAnyH_take (i := 3) (oi := ?oim59) (v := ?vm59) ?him59 (by kernel_rfl) (by kernel_rfl) (by kernel_rfl) ?hQm59 (Or.inl ⟨?hwm59, ?hym59⟩) hHeld ?restm59
    case him59 => simp only [List.getElem?_toArray, List.getElem?_cons_succ, List.getElem?_cons_zero]; rfl
    case hQm59 => exact fun _ _ _ h => h
    case hwm59 => rfl
    case hym59 => (intro w9 hSw; obtain ⟨k0, k1, k2, k3, k4, k5, k6, k7, k8⟩ := hSw.2.cells; go_simp; (try with_reducible rfl))
    case restm59 =>
    try simp only [Act.put, List.setIfInBounds_toArray, List.set_cons_zero, List.set_cons_succ]
    refine wpAnyH_ready (rs := [1]) (by kernel_rfl) (by simp) (AllReadyH.cons (o := ?om60) ?im60 (fun K hK => ?_) AllReadyH.nil)
    case im60 => simp only [List.getElem?_toArray, List.getElem?_cons_succ, List.getElem?_cons_zero]; rfl
    rw [if_pos (by rfl)]
    go_simp
    go_at_call 109
    (with_reducible refine (R1 _).mono ?_)
    rintro e wz ⟨⟨u, rfl, hU⟩, xz⟩
    refine hK.out _ _ (hHeld.ext xz) (fun hHeld => ?_)
    clear hK K
    try simp only [List.setIfInBounds_toArray, List.set_cons_zero, List.set_cons_succ]
    refine wpAnyH_ready (rs := [4]) (by kernel_rfl) (by simp) (AllReadyH.cons (o := ?om61) ?im61 (fun K hK => ?_) AllReadyH.nil)
    case im61 => simp only [List.getElem?_toArray, List.getElem?_cons_succ, List.getElem?_cons_zero]; rfl
    rw [if_pos (by rfl)]
    go_simp
    go_at_call 108
    (with_reducible refine (R2 _ _ ?hc2).mono ?_)
    case hc2 => exact hU
    rintro e wz ⟨rfl, xz⟩
    refine hK.out _ _ (hHeld.ext xz) (fun hHeld => ?_)
    clear hK K
    try simp only [List.setIfInBounds_toArray, List.set_cons_zero, List.set_cons_succ]
    refine wpAnyH_take (i := 5) (oi := ?oim62) (v := ?vm62) ?him62 (by kernel_rfl) (by kernel_rfl) (by kernel_rfl) ?hQm62 (Or.inl ⟨?hwm62, ?hym62⟩) hHeld ?restm62
    case him62 => simp only [List.getElem?_toArray, List.getElem?_cons_succ, List.getElem?_cons_zero]; rfl
    case hQm62 => exact fun _ _ _ h => h
    case hwm62 => rfl
    case hym62 => (intro w9 hSw; obtain ⟨k0, k1, k2, k3, k4, k5, k6, k7, k8⟩ := hSw.2.cells; go_simp; (try with_reducible rfl))
    case restm62 =>
    try simp only [Act.put, List.setIfInBounds_toArray, List.set_cons_zero, List.set_cons_succ]
    refine wpAnyH_take (i := 6) (oi := ?oim63) (v := ?vm63) ?him63 (by kernel_rfl) (by kernel_rfl) (by kernel_rfl) ?hQm63 (Or.inl ⟨?hwm63, ?hym63⟩) hHeld ?restm63
    case him63 => simp only [List.getElem?_toArray, List.getElem?_cons_succ, List.getElem?_cons_zero]; rfl
    case hQm63 => exact fun _ _ _ h => h
    case hwm63 => rfl
    case hym63 => (intro w9 hSw; obtain ⟨k0, k1, k2, k3, k4, k5, k6, k7, k8⟩ := hSw.2.cells; go_simp; (try with_reducible rfl))
    case restm63 =>
    try simp only [Act.put, List.setIfInBounds_toArray, List.set_cons_zero, List.set_cons_succ]
    refine wpAnyH_take (i := 7) (oi := ?oim64) (v := ?vm64) ?him64 (by kernel_rfl) (by kernel_rfl) (by kernel_rfl) ?hQm64 (Or.inl ⟨?hwm64, ?hym64⟩) hHeld ?restm64
    case him64 => simp only [List.getElem?_toArray, List.getElem?_cons_succ, List.getElem?_cons_zero]; rfl
    case hQm64 => exact fun _ _ _ h => h
    case hwm64 => rfl
    case hym64 => (intro w9 hSw; obtain ⟨k0, k1, k2, k3, k4, k5, k6, k7, k8⟩ := hSw.2.cells; go_simp; (try with_reducible rfl))
    case restm64 =>
    try simp only [Act.put, List.setIfInBounds_toArray, List.set_cons_zero, List.set_cons_succ]
    have hHe := hHeld.1
    refine wpAnyH_ready (rs := [8]) (by kernel_rfl) (by simp) (AllReadyH.cons (o := ?om65) ?im65 (fun K hK => ?_) AllReadyH.nil)
    case im65 => simp only [List.getElem?_toArray, List.getElem?_cons_succ, List.getElem?_cons_zero]; rfl
    rw [if_pos (by rfl)]
    go_simp
    go_at_call 110
    (with_reducible refine (R3 _ hHe).mono ?_)
    rintro e wz ⟨rfl, xz⟩
    refine hK.out _ _ (hHeld.ext xz) (fun hHeld => ?_)
    clear hK K
    try simp only [List.setIfInBounds_toArray, List.set_cons_zero, List.set_cons_succ]
    clear hHe
    refine wpAnyH_take (i := 9) (oi := ?oim66) (v := ?vm66) ?him66 (by kernel_rfl) (by kernel_rfl) (by kernel_rfl) ?hQm66 (Or.inl ⟨?hwm66, ?hym66⟩) hHeld ?restm66
    case him66 => simp only [List.getElem?_toArray, List.getElem?_cons_succ, List.getElem?_cons_zero]; rfl
    case hQm66 => exact fun _ _ _ h => h
    case hwm66 => rfl
    case hym66 => (intro w9 hSw; obtain ⟨k0, k1, k2, k3, k4, k5, k6, k7, k8⟩ := hSw.2.cells; go_simp; (try with_reducible rfl))
    case restm66 =>
    try simp only [Act.put, List.setIfInBounds_toArray, List.set_cons_zero, List.set_cons_succ]
    refine wpAnyH_take (i := 10) (oi := ?oim67) (v := ?vm67) ?him67 (by kernel_rfl) (by kernel_rfl) (by kernel_rfl) ?hQm67 (Or.inl ⟨?hwm67, ?hym67⟩) hHeld ?restm67
    case him67 => simp only [List.getElem?_toArray, List.getElem?_cons_succ, List.getElem?_cons_zero]; rfl
    case hQm67 => exact fun _ _ _ h => h
    case hwm67 => rfl
    case hym67 => (intro w9 hSw; obtain ⟨k0, k1, k2, k3, k4, k5, k6, k7, k8⟩ := hSw.2.cells; go_simp; (try with_reducible rfl))
    case restm67 =>
    try simp only [Act.put, List.setIfInBounds_toArray, List.set_cons_zero, List.set_cons_succ]
    refine wpAnyH_take (i := 11) (oi := ?oim68) (v := ?vm68) ?him68 (by kernel_rfl) (by kernel_rfl) (by kernel_rfl) ?hQm68 (Or.inl ⟨?hwm68, ?hym68⟩) hHeld ?restm68
    case him68 => simp only [List.getElem?_toArray, List.getElem?_cons_succ, List.getElem?_cons_zero]; rfl
    case hQm68 => exact fun _ _ _ h => h
    case hwm68 => rfl
    case hym68 => (intro w9 hSw; obtain ⟨k0, k1, k2, k3, k4, k5, k6, k7, k8⟩ := hSw.2.cells; go_simp; (try with_reducible rfl))
    case restm68 =>
    try simp only [Act.put, List.setIfInBounds_toArray, List.set_cons_zero, List.set_cons_succ]
    refine wpAnyH_ready (rs := [12]) (by kernel_rfl) (by simp) (AllReadyH.cons (o := ?om69) ?im69 (fun K hK => ?_) AllReadyH.nil)
    case im69 => simp only [List.getElem?_toArray, List.getElem?_cons_succ, List.getElem?_cons_zero]; rfl
    rw [if_pos (by rfl)]
    go_simp
    go_at_call 111
    (with_reducible refine (R4 _).mono ?_)
    rintro e wz ⟨rfl, xz⟩
    refine hK.out _ _ (hHeld.ext xz) (fun hHeld => ?_)
    clear hK K
    try simp only [List.setIfInBounds_toArray, List.set_cons_zero, List.set_cons_succ]
    refine wpAnyH_take (i := 13) (oi := ?oim70) (v := ?vm70) ?him70 (by kernel_rfl) (by kernel_rfl) (by kernel_rfl) ?hQm70 (Or.inl ⟨?hwm70, ?hym70⟩) hHeld ?restm70
    case him70 => simp only [List.getElem?_toArray, List.getElem?_cons_succ, List.getElem?_cons_zero]; rfl
    case hQm70 => exact fun _ _ _ h => h
    case hwm70 => rfl
    case hym70 => (intro w9 hSw; obtain ⟨k0, k1, k2, k3, k4, k5, k6, k7, k8⟩ := hSw.2.cells; go_simp; (try with_reducible rfl))
    case restm70 =>
    try simp only [Act.put, List.setIfInBounds_toArray, List.set_cons_zero, List.set_cons_succ]
    refine wpAnyH_take (i := 14) (oi := ?oim71) (v := ?vm71) ?him71 (by kernel_rfl) (by kernel_rfl) (by kernel_rfl) ?hQm71 (Or.inl ⟨?hwm71, ?hym71⟩) hHeld ?restm71
    case him71 => simp only [List.getElem?_toArray, List.getElem?_cons_succ, List.getElem?_cons_zero]; rfl
    case hQm71 => exact fun _ _ _ h => h
    case hwm71 => rfl
    case hym71 => (intro w9 hSw; obtain ⟨k0, k1, k2, k3, k4, k5, k6, k7, k8⟩ := hSw.2.cells; go_simp; (try with_reducible rfl))
    case restm71 =>
    try simp only [Act.put, List.setIfInBounds_toArray, List.set_cons_zero, List.set_cons_succ]
    refine wpAnyH_take (i := 15) (oi := ?oim72) (v := undef) ?him72 (by kernel_rfl) (by kernel_rfl) (by kernel_rfl) ?hQm72 (Or.inr ⟨?hwm72, rfl⟩) hHeld ?restm72
    case him72 => simp only [List.getElem?_toArray, List.getElem?_cons_succ, List.getElem?_cons_zero]; rfl
    case hQm72 => exact fun _ _ _ h => h
    case hwm72 => rfl
    case restm72 =>
    try simp only [Act.put, List.setIfInBounds_toArray, List.set_cons_zero, List.set_cons_succ]
    refine wpAnyH_take (i := 16) (oi := ?oim73) (v := undef) ?him73 (by kernel_rfl) (by kernel_rfl) (by kernel_rfl) ?hQm73 (Or.inr ⟨?hwm73, rfl⟩) hHeld ?restm73
    case him73 => simp only [List.getElem?_toArray, List.getElem?_cons_succ, List.getElem?_cons_zero]; rfl
    case hQm73 => exact fun _ _ _ h => h
    case hwm73 => rfl
    case restm73 =>
    try simp only [Act.put, List.setIfInBounds_toArray, List.set_cons_zero, List.set_cons_succ]
    refine wpAnyH_take (i := 17) (oi := ?oim74) (v := undef) ?him74 (by kernel_rfl) (by kernel_rfl) (by kernel_rfl) ?hQm74 (Or.inr ⟨?hwm74, rfl⟩) hHeld ?restm74
    case him74 => simp only [List.getElem?_toArray, List.getElem?_cons_succ, List.getElem?_cons_zero]; rfl
    case hQm74 => exact fun _ _ _ h => h
    case hwm74 => rfl
    case restm74 =>
    try simp only [Act.put, List.setIfInBounds_toArray, List.set_cons_zero, List.set_cons_succ]
    refine wpAnyH_take (i := 18) (oi := ?oim75) (v := ?vm75) ?him75 (by kernel_rfl) (by kernel_rfl) (by kernel_rfl) ?hQm75 (Or.inl ⟨?hwm75, ?hym75⟩) hHeld ?restm75
    case him75 => simp only [List.getElem?_toArray, List.getElem?_cons_succ, List.getElem?_cons_zero]; rfl
    case hQm75 => exact fun _ _ _ h => h
    case hwm75 => rfl
    case hym75 => (intro w9 hSw; obtain ⟨k0, k1, k2, k3, k4, k5, k6, k7, k8⟩ := hSw.2.cells; go_simp; (try with_reducible rfl))
    case restm75 =>
    try simp only [Act.put, List.setIfInBounds_toArray, List.set_cons_zero, List.set_cons_succ]
    refine wpAnyH_take (i := 19) (oi := ?oim76) (v := ?vm76) ?him76 (by kernel_rfl) (by kernel_rfl) (by kernel_rfl) ?hQm76 (Or.inl ⟨?hwm76, ?hym76⟩) hHeld ?restm76
    case him76 => simp only [List.getElem?_toArray, List.getElem?_cons_succ, List.getElem?_cons_zero]; rfl
    case hQm76 => exact fun _ _ _ h => h
    case hwm76 => rfl
    case hym76 => (intro w9 hSw; obtain ⟨k0, k1, k2, k3, k4, k5, k6, k7, k8⟩ := hSw.2.cells; go_simp; (try with_reducible rfl))
    case restm76 =>
    try simp only [Act.put, List.setIfInBounds_toArray, List.set_cons_zero, List.set_cons_succ]
    refine wpAnyH_take (i := 20) (oi := ?oim77) (v := undef) ?him77 (by kernel_rfl) (by kernel_rfl) (by kernel_rfl) ?hQm77 (Or.inr ⟨?hwm77, rfl⟩) hHeld ?restm77
    case him77 => simp only [List.getElem?_toArray, List.getElem?_cons_succ, List.getElem?_cons_zero]; rfl
    case hQm77 => exact fun _ _ _ h => h
    case hwm77 => rfl
    case restm77 =>
    try simp only [Act.put, List.setIfInBounds_toArray, List.set_cons_zero, List.set_cons_succ]
    refine wpAnyH_take (i := 21) (oi := ?oim78) (v := undef) ?him78 (by kernel_rfl) (by kernel_rfl) (by kernel_rfl) ?hQm78 (Or.inr ⟨?hwm78, rfl⟩) hHeld ?restm78
    case him78 => simp only [List.getElem?_toArray, List.getElem?_cons_succ, List.getElem?_cons_zero]; rfl
    case hQm78 => exact fun _ _ _ h => h
    case hwm78 => rfl
    case restm78 =>
    try simp only [Act.put, List.setIfInBounds_toArray, List.set_cons_zero, List.set_cons_succ]
    refine wpAnyH_take (i := 22) (oi := ?oim79) (v := ?vm79) ?him79 (by kernel_rfl) (by kernel_rfl) (by kernel_rfl) ?hQm79 (Or.inl ⟨?hwm79, ?hym79⟩) hHeld ?restm79
    case him79 => simp only [List.getElem?_toArray, List.getElem?_cons_succ, List.getElem?_cons_zero]; rfl
    case hQm79 => exact fun _ _ _ h => h
    case hwm79 => rfl
    case hym79 => (intro w9 hSw; obtain ⟨k0, k1, k2, k3, k4, k5, k6, k7, k8⟩ := hSw.2.cells; go_simp; (try with_reducible rfl))
    case restm79 =>
    try simp only [Act.put, List.setIfInBounds_toArray, List.set_cons_zero, List.set_cons_succ]
    refine wpAnyH_take (i := 23) (oi := ?oim80) (v := ?vm80) ?him80 (by kernel_rfl) (by kernel_rfl) (by kernel_rfl) ?hQm80 (Or.inl ⟨?hwm80, ?hym80⟩) hHeld ?restm80
    case him80 => simp only [List.getElem?_toArray, List.getElem?_cons_succ, List.getElem?_cons_zero]; rfl
    case hQm80 => exact fun _ _ _ h => h
    case hwm80 => rfl
    case hym80 => (intro w9 hSw; obtain ⟨k0, k1, k2, k3, k4, k5, k6, k7, k8⟩ := hSw.2.cells; go_simp; (try with_reducible rfl))
    case restm80 =>
    try simp only [Act.put, List.setIfInBounds_toArray, List.set_cons_zero, List.set_cons_succ]
    refine wpAnyH_take (i := 24) (oi := ?oim81) (v := undef) ?him81 (by kernel_rfl) (by kernel_rfl) (by kernel_rfl) ?hQm81 (Or.inr ⟨?hwm81, rfl⟩) hHeld ?restm81
    case him81 => simp only [List.getElem?_toArray, List.getElem?_cons_succ, List.getElem?_cons_zero]; rfl
    case hQm81 => exact fun _ _ _ h => h
    case hwm81 => rfl
    case restm81 =>
    try simp only [Act.put, List.setIfInBounds_toArray, List.set_cons_zero, List.set_cons_succ]
    refine wpAnyH_take (i := 25) (oi := ?oim82) (v := undef) ?him82 (by kernel_rfl) (by kernel_rfl) (by kernel_rfl) ?hQm82 (Or.inr ⟨?hwm82, rfl⟩) hHeld ?restm82
    case him82 => simp only [List.getElem?_toArray, List.getElem?_cons_succ, List.getElem?_cons_zero]; rfl
    case hQm82 => exact fun _ _ _ h => h
    case hwm82 => rfl
    case restm82 =>
    try simp only [Act.put, List.setIfInBounds_toArray, List.set_cons_zero, List.set_cons_succ]
    refine wpAnyH_take (i := 26) (oi := ?oim83) (v := ?vm83) ?him83 (by kernel_rfl) (by kernel_rfl) (by kernel_rfl) ?hQm83 (Or.inl ⟨?hwm83, ?hym83⟩) hHeld ?restm83
    case him83 => simp only [List.getElem?_toArray, List.getElem?_cons_succ, List.getElem?_cons_zero]; rfl
    case hQm83 => exact fun _ _ _ h => h
    case hwm83 => rfl
    case hym83 => (intro w9 hSw; obtain ⟨k0, k1, k2, k3, k4, k5, k6, k7, k8⟩ := hSw.2.cells; go_simp; (try with_reducible rfl))
    case restm83 =>
    try simp only [Act.put, List.setIfInBounds_toArray, List.set_cons_zero, List.set_cons_succ]
    refine wpAnyH_take (i := 27) (oi := ?oim84) (v := ?vm84) ?him84 (by kernel_rfl) (by kernel_rfl) (by kernel_rfl) ?hQm84 (Or.inl ⟨?hwm84, ?hym84⟩) hHeld ?restm84
    case him84 => simp only [List.getElem?_toArray, List.getElem?_cons_succ, List.getElem?_cons_zero]; rfl
    case hQm84 => exact fun _ _ _ h => h
    case hwm84 => rfl
    case hym84 => (intro w9 hSw; obtain ⟨k0, k1, k2, k3, k4, k5, k6, k7, k8⟩ := hSw.2.cells; go_simp; (try with_reducible rfl))
    case restm84 =>
    try simp only [Act.put, List.setIfInBounds_toArray, List.set_cons_zero, List.set_cons_succ]
    refine wpAnyH_done (by kernel_rfl) ?_ _
    have xf := hHeld.1
    go_wp2_with fail
    go_ret
    exact ⟨by first | rfl | simp, xf⟩
   ·cases b4
    ·go_enter Tryz.func79, Tryz.ntmps79
     go_wp2_with fail
     refine wp_region_held_drew (S := Pt1 w w.heap.size v r f M S m s t T) (by kernel_rfl) (hJ0.ext (Ext.refl _).drew) (fun hHeld => ?_)
     refine wpAnyH_take (i := 0) (oi := ?oim85) (v := ?vm85) ?him85 (by kernel_rfl) (by kernel_rfl) (by kernel_rfl) ?hQm85 (Or.inl ⟨?hwm85, ?hym85⟩) hHeld ?restm85
     case him85 => simp only [List.getElem?_toArray, List.getElem?_cons_zero]; rfl
     case hQm85 => exact fun _ _ _ h => h
     case hwm85 => rfl
     case hym85 => (intro w9 hSw; obtain ⟨k0, k1, k2, k3, k4, k5, k6, k7, k8⟩ := hSw.2.cells; go_simp; (try with_reducible rfl))
     case restm85 =>
     try simp only [Act.put, List.setIfInBounds_toArray, List.set_cons_zero, List.set_cons_succ]
     refine wpAnyH_take (i := 2) (oi := ?oim86) (v := ?vm86) ?him86 (by kernel_rfl) (by kernel_rfl) (by kernel_rfl) ?hQm86 (Or.inl ⟨?hwm86, ?hym86⟩) hHeld ?restm86
     case him86 => simp only [List.getElem?_toArray, List.getElem?_cons_succ, List.getElem?_cons_zero]; rfl
     case hQm86 => exact fun _ _ _ h => h
     case hwm86 => rfl
     case hym86 => (intro w9 hSw; obtain ⟨k0, k1, k2, k3, k4, k5, k6, k7, k8⟩ := hSw.2.cells; go_simp; (try with_reducible rfl))
     case restm86 =>
     try simp only [Act.put, List.setIfInBounds_toArray, List.set_cons_zero, List.set_cons_succ]
     refine wpAnyH_take (i := 3) (oi := ?oim87) (v := ?vm87) ?him87 (by kernel_rfl) (by kernel_rfl) (by kernel_rfl) ?hQm87 (Or.inl ⟨?hwm87, ?hym87⟩) hHeld ?restm87
     case him87 => simp only [List.getElem?_toArray, List.getElem?_cons_succ, List.getElem?_cons_zero]; rfl
     case hQm87 => exact fun _ _ _ h => h
     case hwm87 => rfl
     case hym87 => (intro w9 hSw; obtain ⟨k0, k1, k2, k3, k4, k5, k6, k7, k8⟩ := hSw.2.cells; go_simp; (try with_reducible rfl))
     case restm87 =>
     try simp only [Act.put, List.setIfInBounds_toArray, List.set_cons_zero, List.set_cons_succ]
     refine wpAnyH_ready (rs := [1]) (by kernel_rfl) (by simp) (AllReadyH.cons (o := ?om88) ?im88 (fun K hK => ?_) AllReadyH.nil)
     case im88 => simp only [List.getElem?_toArray, List.getElem?_cons_succ, List.getElem?_cons_zero]; rfl
     rw [if_pos (by rfl)]
     go_simp
     go_at_call 109
     (with_reducible refine (R1 _).mono ?_)
     rintro e wz ⟨⟨u, rfl, hU⟩, xz⟩
     refine hK.out _ _ (hHeld.ext xz) (fun hHeld => ?_)
     clear hK K
     try simp only [List.setIfInBounds_toArray, List.set_cons_zero, List.set_cons_succ]
     refine wpAnyH_ready (rs := [4]) (by kernel_rfl) (by simp) (AllReadyH.cons (o := ?om89) ?im89 (fun K hK => ?_) AllReadyH.nil)
     case im89 => simp only [List.getElem?_toArray, List.getElem?_cons_succ, List.getElem?_cons_zero]; rfl
     rw [if_pos (by rfl)]
     go_simp
     go_at_call 108
     (with_reducible refine (R2 _ _ ?hc3).mono ?_)
     case hc3 => exact hU
     rintro e wz ⟨rfl, xz⟩
     refine hK.out _ _ (hHeld.ext xz) (fun hHeld => ?_)
     clear hK K
     try simp only [List.setIfInBounds_toArray, List.set_cons_zero, List.set_cons_succ]
     refine wpAnyH_take (i := 5) (oi := ?oim90) (v := ?vm90) ?him90 (by kernel_rfl) (by kernel_rfl) (by kernel_rfl) ?hQm90 (Or.inl ⟨?hwm90, ?hym90⟩) hHeld ?restm90
     case him90 => simp only [List.getElem?_toArray, List.getElem?_cons_succ, List.getElem?_cons_zero]; rfl
     case hQm90 => exact fun _ _ _ h => h
     case hwm90 => rfl
     case hym90 => (intro w9 hSw; obtain ⟨k0, k1, k2, k3, k4, k5, k6, k7, k8⟩ := hSw.2.cells; go_simp; (try with_reducible rfl))
     case restm90 =>
     try simp only [Act.put, List.setIfInBounds_toArray, List.set_cons_zero, List.set_cons_succ]
     refine wpAnyH_take (i := 6) (oi := ?oim91) (v := ?vm91) ?him91 (by kernel_rfl) (by kernel_rfl) (by kernel_rfl) ?hQm91 (Or.inl ⟨?hwm91, ?hym91⟩) hHeld ?restm91
     case him91 => simp only [List.getElem?_toArray, List.getElem?_cons_succ, List.getElem?_cons_zero]; rfl
     case hQm91 => exact fun _ _ _ h => h
     case hwm91 => rfl
     case hym91 => (intro w9 hSw; obtain ⟨k0, k1, k2, k3, k4, k5, k6, k7, k8⟩ := hSw.2.cells; go_simp; (try with_reducible rfl))
     case restm91 =>
     try simp only [Act.put, List.setIfInBounds_toArray, List.set_cons_zero, List.set_cons_succ]
     refine wpAnyH_take (i := 7) (oi := ?oim92) (v := ?vm92) ?him92 (by kernel_rfl) (by kernel_rfl) (by kernel_rfl) ?hQm92 (Or.inl ⟨?hwm92, ?hym92⟩) hHeld ?restm92
     case him92 => simp only [List.getElem?_toArray, List.getElem?_cons_succ, List.getElem?_cons_zero]; rfl
     case hQm92 => exact fun _ _ _ h => h
     case hwm92 => rfl
     case hym92 => (intro w9 hSw; obtain ⟨k0, k1, k2, k3, k4, k5, k6, k7, k8⟩ := hSw.2.cells; go_simp; (try with_reducible rfl))
     case restm92 =>
     try simp only [Act.put, List.setIfInBounds_toArray, List.set_cons_zero, List.set_cons_succ]
     have hHe := hHeld.1
     refine wpAnyH_ready (rs := [8]) (by kernel_rfl) (by simp) (AllReadyH.cons (o := ?om93) ?im93 (fun K hK => ?_) AllReadyH.nil)
     case im93 => simp only [List.getElem?_toArray, List.getElem?_cons_succ, List.getElem?_cons_zero]; rfl
     rw [if_pos (by rfl)]
     go_simp
     go_at_call 110
     (with_reducible refine (R3 _ hHe).mono ?_)
     rintro e wz ⟨rfl, xz⟩
     refine hK.out _ _ (hHeld.ext xz) (fun hHeld => ?_)
     clear hK K
     try simp only [List.setIfInBounds_toArray, List.set_cons_zero, List.set_cons_succ]
     clear hHe
     refine wpAnyH_take (i := 9) (oi := ?oim94) (v := ?vm94) ?him94 (by kernel_rfl) (by kernel_rfl) (by kernel_rfl) ?hQm94 (Or.inl ⟨?hwm94, ?hym94⟩) hHeld ?restm94
     case him94 => simp only [List.getElem?_toArray, List.getElem?_cons_succ, List.getElem?_cons_zero]; rfl
     case hQm94 => exact fun _ _ _ h => h
     case hwm94 => rfl
     case hym94 => (intro w9 hSw; obtain ⟨k0, k1, k2, k3, k4, k5, k6, k7, k8⟩ := hSw.2.cells; go_simp; (try with_reducible rfl))
     case restm94 =>
     try simp only [Act.put, List.setIfInBounds_toArray, List.set_cons_zero, List.set_cons_succ]
     refine wpAnyH_take (i := 10) (oi := ?oim95) (v := ?vm95) ?him95 (by kernel_rfl) (by kernel_rfl) (by kernel_rfl) ?hQm95 (Or.inl ⟨?hwm95, ?hym95⟩) hHeld ?restm95
     case him95 => simp only [List.getElem?_toArray, List.getElem?_cons_succ, List.getElem?_cons_zero]; rfl
     case hQm95 => exact fun _ _ _ h => h
     case hwm95 => rfl
     case hym95 => (intro w9 hSw; obtain ⟨k0, k1, k2, k3, k4, k5, k6, k7, k8⟩ := hSw.2.cells; go_simp; (try with_reducible rfl))
     case restm95 =>
     try simp only [Act.put, List.setIfInBounds_toArray, List.set_cons_zero, List.set_cons_succ]
     refine wpAnyH_take (i := 11) (oi := ?oim96) (v := ?vm96) ?him96 (by kernel_rfl) (by kernel_rfl) (by kernel_rfl) ?hQm96 (Or.inl ⟨?hwm96, ?hym96⟩) hHeld ?restm96
     case him96 => simp only [List.getElem?_toArray, List.getElem?_cons_succ, List.getElem?_cons_zero]; rfl
     case hQm96 => exact fun _ _ _ h => h
     case hwm96 => rfl
     case hym96 => (intro w9 hSw; obtain ⟨k0, k1, k2, k3, k4, k5, k6, k7, k8⟩ := hSw.2.cells; go_simp; (try with_reducible rfl))
     case restm96 =>
     try simp only [Act.put, List.setIfInBounds_toArray, List.set_cons_zero, List.set_cons_succ]
     refine wpAnyH_ready (rs := [12]) (by kernel_rfl) (by simp) (AllReadyH.cons (o := ?om97) ?im97 (fun K hK => ?_) AllReadyH.nil)
     case im97 => simp only [List.getElem?_toArray, List.getElem?_cons_succ, List.getElem?_cons_zero]; rfl
     rw [if_pos (by rfl)]
     go_simp
     go_at_call 111
     (with_reducible refine (R4 _).mono ?_)
     rintro e wz ⟨rfl, xz⟩
     refine hK.out _ _ (hHeld.ext xz) (fun hHeld => ?_)
     clear hK K
     try simp only [List.setIfInBounds_toArray, List.set_cons_zero, List.set_cons_succ]
     refine wpAnyH_take (i := 13) (oi := ?oim98) (v := ?vm98) ?him98 (by kernel_rfl) (by kernel_rfl) (by kernel_rfl) ?hQm98 (Or.inl ⟨?hwm98, ?hym98⟩) hHeld ?restm98
     case him98 => simp only [List.getElem?_toArray, List.getElem?_cons_succ, List.getElem?_cons_zero]; rfl
     case hQm98 => exact fun _ _ _ h => h
     case hwm98 => rfl
     case hym98 => (intro w9 hSw; obtain ⟨k0, k1, k2, k3, k4, k5, k6, k7, k8⟩ := hSw.2.cells; go_simp; (try with_reducible rfl))
     case restm98 =>
     try simp only [Act.put, List.setIfInBounds_toArray, List.set_cons_zero, List.set_cons_succ]
     refine wpAnyH_take (i := 14) (oi := ?oim99) (v := ?vm99) ?him99 (by kernel_rfl) (by kernel_rfl) (by kernel_rfl) ?hQm99 (Or.inl ⟨?hwm99, ?hym99⟩) hHeld ?restm99
     case him99 => simp only [List.getElem?_toArray, List.getElem?_cons_succ, List.getElem?_cons_zero]; rfl
     case hQm99 => exact fun _ _ _ h => h
     case hwm99 => rfl
     case hym99 => (intro w9 hSw; obtain ⟨k0, k1, k2, k3, k4, k5, k6, k7, k8⟩ := hSw.2.cells; go_simp; (try with_reducible rfl))
     case restm99 =>
     try simp only [Act.put, List.setIfInBounds_toArray, List.set_cons_zero, List.set_cons_succ]
     refine wpAnyH_take (i := 15) (oi := ?oim100) (v := ?vm100) ?him100 (by kernel_rfl) (by kernel_rfl) (by kernel_rfl) ?hQm100 (Or.inl ⟨?hwm100, ?hym100⟩) hHeld ?restm100
     case him100 => simp only [List.getElem?_toArray, List.getElem?_cons_succ, List.getElem?_cons_zero]; rfl
     case hQm100 => exact fun _ _ _ h => h
     case hwm100 => rfl
     case hym100 => (intro w9 hSw; obtain ⟨k0, k1, k2, k3, k4, k5, k6, k7, k8⟩ := hSw.2.cells; go_simp; (try with_reducible rfl))
     case restm100 =>
     try simp only [Act.put, List.setIfInBounds_toArray, List.set_cons_zero, List.set_cons_succ]
     refine wpAnyH_take (i := 16) (oi := ?oim101) (v := ?vm101) ?him101 (by kernel_rfl) (by kernel_rfl) (by kernel_rfl) ?hQm101 (Or.inl ⟨?hwm101, ?hym101⟩) hHeld ?restm101
     case him101 => simp only [List.getElem?_toArray, List.getElem?_cons_succ, List.getElem?_cons_zero]; rfl
     case hQm101 => exact fun _ _ _ h => h
     case hwm101 => rfl
     case hym101 => (intro w9 hSw; obtain ⟨k0, k1, k2, k3, k4, k5, k6, k7, k8⟩ := hSw.2.cells; go_simp; (try with_reducible rfl))
     case restm101 =>
     try simp only [Act.put, List.setIfInBounds_toArray, List.set_cons_zero, List.set_cons_succ]
     refine wpAnyH_ready (rs := [17]) (by kernel_rfl) (by simp) (AllReadyH.cons (o := ?om102) ?im102 (fun K hK => ?_) AllReadyH.nil)
     case im102 => simp only [List.getElem?_toArray, List.getElem?_cons_succ, List.getElem?_cons_zero]; rfl
     rw [if_pos (by rfl)]
     go_simp
     go_at_call 112
     (with_reducible refine (R5 _).mono ?_)
     rintro e wz ⟨rfl, xz⟩
     refine hK.out _ _ (hHeld.ext xz) (fun hHeld => ?_)
     clear hK K
     try simp only [List.setIfInBounds_toArray, List.set_cons_zero, List.set_cons_succ]
     refine wpAnyH_take (i := 18) (oi := ?oim103) (v := ?vm103) ?him103 (by kernel_rfl) (by kernel_rfl) (by kernel_rfl) ?hQm103 (Or.inl ⟨?hwm103, ?hym103⟩) hHeld ?restm103
     case him103 => simp only [List.getElem?_toArray, List.getElem?_cons_succ, List.getElem?_cons_zero]; rfl
     case hQm103 => exact fun _ _ _ h => h
     case hwm103 => rfl
     case hym103 => (intro w9 hSw; obtain ⟨k0, k1, k2, k3, k4, k5, k6, k7, k8⟩ := hSw.2.cells; go_simp; (try with_reducible rfl))
     case restm103 =>
     try simp only [Act.put, List.setIfInBounds_toArray, List.set_cons_zero, List.set_cons_succ]
     refine wpAnyH_take (i := 19) (oi := ?oim104) (v := ?vm104) ?him104 (by kernel_rfl) (by kernel_rfl) (by kernel_rfl) ?hQm104 (Or.inl ⟨?hwm104, ?hym104⟩) hHeld ?restm104
     case him104 => simp only [List.getElem?_toArray, List.getElem?_cons_succ, List.getElem?_cons_zero]; rfl
     case hQm104 => exact fun _ _ _ h => h
     case hwm104 => rfl
     case hym104 => (intro w9 hSw; obtain ⟨k0, k1, k2, k3, k4, k5, k6, k7, k8⟩ := hSw.2.cells; go_simp; (try with_reducible rfl))
     case restm104 =>
     try simp only [Act.put, List.setIfInBounds_toArray, List.set_cons_zero, List.set_cons_succ]
     refine wpAnyH_take (i := 20) (oi := ?oim105) (v := undef) ?him105 (by kernel_rfl) (by kernel_rfl) (by kernel_rfl) ?hQm105 (Or.inr ⟨?hwm105, rfl⟩) hHeld ?restm105
     case him105 => simp only [List.getElem?_toArray, List.getElem?_cons_succ, List.getElem?_cons_zero]; rfl
     case hQm105 => exact fun _ _ _ h => h
     case hwm105 => rfl
     case restm105 =>
     try simp only [Act.put, List.setIfInBounds_toArray, List.set_cons_zero, List.set_cons_succ]
     refine wpAnyH_take (i := 21) (oi := ?oim106) (v := undef) ?him106 (by kernel_rfl) (by kernel_rfl) (by kernel_rfl) ?hQm106 (Or.inr ⟨?hwm106, rfl⟩) hHeld ?restm106
     case him106 => simp only [List.getElem?_toArray, List.getElem?_cons_succ, List.getElem?_cons_zero]; rfl
     case hQm106 => exact fun _ _ _ h => h
     case hwm106 => rfl
     case restm106 =>
     try simp only [Act.put, List.setIfInBounds_toArray, List.set_cons_zero, List.set_cons_succ]
     refine wpAnyH_take (i := 22) (oi := ?oim107) (v := ?vm107) ?him107 (by kernel_rfl) (by kernel_rfl) (by kernel_rfl) ?hQm107 (Or.inl ⟨?hwm107, ?hym107⟩) hHeld ?restm107
     case him107 => simp only [List.getElem?_toArray, List.getElem?_cons_succ, List.getElem?_cons_zero]; rfl
     case hQm107 => exact fun _ _ _ h => h
     case hwm107 => rfl
     case hym107 => (intro w9 hSw; obtain ⟨k0, k1, k2, k3, k4, k5, k6, k7, k8⟩ := hSw.2.cells; go_simp; (try with_reducible rfl))
     case restm107 =>
     try simp only [Act.put, List.setIfInBounds_toArray, List.set_cons_zero, List.set_cons_succ]
     refine wpAnyH_take (i := 23) (oi := ?oim108) (v := ?vm108) ?him108 (by kernel_rfl) (by kernel_rfl) (by kernel_rfl) ?hQm108 (Or.inl ⟨?hwm108, ?hym108⟩) hHeld ?restm108
     case him108 => simp only [List.getElem?_toArray, List.getElem?_cons_succ, List.getElem?_cons_zero]; rfl
     case hQm108 => exact fun _ _ _ h => h
     case hwm108 => rfl
     case hym108 => (intro w9 hSw; obtain ⟨k0, k1, k2, k3, k4, k5, k6, k7, k8⟩ := hSw.2.cells; go_simp; (try with_reducible rfl))
     case restm108 =>
     try simp only [Act.put, List.setIfInBounds_toArray, List.set_cons_zero, List.set_cons_succ]
     refine wpAnyH_take (i := 24) (oi := ?oim109) (v := undef) ?him109 (by kernel_rfl) (by kernel_rfl) (by kernel_rfl) ?hQm109 (Or.inr ⟨?hwm109, rfl⟩) hHeld ?restm109
     case him109 => simp only [List.getElem?_toArray, List.getElem?_cons_succ, List.getElem?_cons_zero]; rfl
     case hQm109 => exact fun _ _ _ h => h
     case hwm109 => rfl
     case restm109 =>
     try simp only [Act.put, List.setIfInBounds_toArray, List.set_cons_zero, List.set_cons_succ]
     refine wpAnyH_take (i := 25) (oi := ?oim110) (v := undef) ?him110 (by kernel_rfl) (by kernel_rfl) (by kernel_rfl) ?hQm110 (Or.inr ⟨?hwm110, rfl⟩) hHeld ?restm110
     case him110 => simp only [List.getElem?_toArray, List.getElem?_cons_succ, List.getElem?_cons_zero]; rfl
     case hQm110 => exact fun _ _ _ h => h
     case hwm110 => rfl
     case restm110 =>
     try simp only [Act.put, List.setIfInBounds_toArray, List.set_cons_zero, List.set_cons_succ]
     refine wpAnyH_take (i := 26) (oi := ?oim111) (v := ?vm111) ?him111 (by kernel_rfl) (by kernel_rfl) (by kernel_rfl) ?hQm111 (Or.inl ⟨?hwm111, ?hym111⟩) hHeld ?restm111
     case him111 => simp only [List.getElem?_toArray, List.getElem?_cons_succ, List.getElem?_cons_zero]; rfl
     case hQm111 => exact fun _ _ _ h => h
     case hwm111 => rfl
     case hym111 => (intro w9 hSw; obtain ⟨k0, k1, k2, k3, k4, k5, k6, k7, k8⟩ := hSw.2.cells; go_simp; (try with_reducible rfl))
     case restm111 =>
     try simp only [Act.put, List.setIfInBounds_toArray, List.set_cons_zero, List.set_cons_succ]
     refine wpAnyH_take (i := 27) (oi := ?oim112) (v := ?vm112) ?him112 (by kernel_rfl) (by kernel_rfl) (by kernel_rfl) ?hQm112 (Or.inl ⟨?hwm112, ?hym112⟩) hHeld ?restm112
     case him112 => simp only [List.getElem?_toArray, List.getElem?_cons_succ, List.getElem?_cons_zero]; rfl
     case hQm112 => exact fun _ _ _ h => h
     case hwm112 => rfl
     case hym112 => (intro w9 hSw; obtain ⟨k0, k1, k2, k3, k4, k5, k6, k7, k8⟩ := hSw.2.cells; go_simp; (try with_reducible rfl))
     case restm112 =>
     try simp only [Act.put, List.setIfInBounds_toArray, List.set_cons_zero, List.set_cons_succ]
     refine wpAnyH_done (by kernel_rfl) ?_ _
     have xf := hHeld.1
     go_wp2_with fail
     go_ret
     exact ⟨by first | rfl | simp, xf⟩
    ·cases b5
     ·go_enter Tryz.func79, Tryz.ntmps79
      go_wp2_with fail
      refine wp_region_held_drew (S := Pt1 w w.heap.size v r f M S m s t T) (by kernel_rfl) (hJ0.ext (Ext.refl _).drew) (fun hHeld => ?_)
      refine wpAnyH_take (i := 0) (oi := ?oim113) (v := ?vm113) ?him113 (by kernel_rfl) (by kernel_rfl) (by kernel_rfl) ?hQm113 (Or.inl ⟨?hwm113, ?hym113⟩) hHeld ?restm113
      case him113 => simp only [List.getElem?_toArray, List.getElem?_cons_zero]; rfl
      case hQm113 => exact fun _ _ _ h => h
      case hwm113 => rfl
      case hym113 => (intro w9 hSw; obtain ⟨k0, k1, k2, k3, k4, k5, k6, k7, k8⟩ := hSw.2.cells; go_simp; (try with_reducible rfl))
      case restm113 =>
      try simp only [Act.put, List.setIfInBounds_toArray, List.set_cons_zero, List.set_cons_succ]
      refine wpAnyH_take (i := 2) (oi := ?oim114) (v := ?vm114) ?him114 (by kernel_rfl) (by kernel_rfl) (by kernel_rfl) ?hQm114 (Or.inl ⟨?hwm114, ?hym114⟩) hHeld ?restm114
      case him114 => simp only [List.getElem?_toArray, List.getElem?_cons_succ, List.getElem?_cons_zero]; rfl
      case hQm114 => exact fun _ _ _ h => h
      case hwm114 => rfl
      case hym114 => (intro w9 hSw; obtain ⟨k0, k1, k2, k3, k4, k5, k6, k7, k8⟩ := hSw.2.cells; go_simp; (try with_reducible rfl))
      case restm114 =>
      try simp only [Act.put, List.setIfInBounds_toArray, List.set_cons_zero, List.set_cons_succ]
      refine wpAnyH_take (i := 3) (oi := ?oim115) (v := ?vm115) ?him115 (by kernel_rfl) (by kernel_rfl) (by kernel_rfl) ?hQm115 (Or.inl ⟨?hwm115, ?hym115⟩) hHeld ?restm115
      case him115 => simp only [List.getElem?_toArray, List.getElem?_cons_succ, List.getElem?_cons_zero]; rfl
      case hQm115 => exact fun _ _ _ h => h
      case hwm115 => rfl
      case hym115 => (intro w9 hSw; obtain ⟨k0, k1, k2, k3, k4, k5, k6, k7, k8⟩ := hSw.2.cells; go_simp; (try with_reducible rfl))
      case restm115 =>
      try simp only [Act.put, List.setIfInBounds_toArray, List.set_cons_zero, List.set_cons_succ]
      refine wpAnyH_ready (rs := [1]) (by kernel_rfl) (by simp) (AllReadyH.cons (o := ?om116) ?im116 (fun K hK => ?_) AllReadyH.nil)
      case im116 => simp only [List.getElem?_toArray, List.getElem?_cons_succ, List.getElem?_cons_zero]; rfl
      rw [if_pos (by rfl)]
      go_simp
      go_at_call 109
      (with_reducible refine (R1 _).mono ?_)
      rintro e wz ⟨⟨u, rfl, hU⟩, xz⟩
      refine hK.out _ _ (hHeld.ext xz) (fun hHeld => ?_)
      clear hK K
      try simp only [List.setIfInBounds_toArray, List.set_cons_zero, List.set_cons_succ]
      refine wpAnyH_ready (rs := [4]) (by kernel_rfl) (by simp) (AllReadyH.cons (o := ?om117) ?im117 (fun K hK => ?_) AllReadyH.nil)
      case im117 => simp only [List.getElem?_toArray, List.getElem?_cons_succ, List.getElem?_cons_zero]; rfl
      rw [if_pos (by rfl)]
      go_simp
      go_at_call 108
      (with_reducible refine (R2 _ _ ?hc4).mono ?_)
      case hc4 => exact hU
      rintro e wz ⟨rfl, xz⟩
      refine hK.out _ _ (hHeld.ext xz) (fun hHeld => ?_)
      clear hK K
      try simp only [List.setIfInBounds_toArray, List.set_cons_zero, List.set_cons_succ]
      refine wpAnyH_take (i := 5) (oi := ?oim118) (v := ?vm118) ?him118 (by kernel_rfl) (by kernel_rfl) (by kernel_rfl) ?hQm118 (Or.inl ⟨?hwm118, ?hym118⟩) hHeld ?restm118
      case him118 => simp only [List.getElem?_toArray, List.getElem?_cons_succ, List.getElem?_cons_zero]; rfl
      case hQm118 => exact fun _ _ _ h => h
      case hwm118 => rfl
      case hym118 => (intro w9 hSw; obtain ⟨k0, k1, k2, k3, k4, k5, k6, k7, k8⟩ := hSw.2.cells; go_simp; (try with_reducible rfl))
      case restm118 =>
      try simp only [Act.put, List.setIfInBounds_toArray, List.set_cons_zero, List.set_cons_succ]
      refine wpAnyH_take (i := 6) (oi := ?oim119) (v := ?vm119) ?him119 (by kernel_rfl) (by kernel_rfl) (by kernel_rfl) ?hQm119 (Or.inl ⟨?hwm119, ?hym119⟩) hHeld ?restm119
      case him119 => simp only [List.getElem?_toArray, List.getElem?_cons_succ, List.getElem?_cons_zero]; rfl
      case hQm119 => exact fun _ _ _ h => h
      case hwm119 => rfl
      case hym119 => (intro w9 hSw; obtain ⟨k0, k1, k2, k3, k4, k5, k6, k7, k8⟩ := hSw.2.cells; go_simp; (try with_reducible rfl))
      case restm119 =>
      try simp only [Act.put, List.setIfInBounds_toArray, List.set_cons_zero, List.set_cons_succ]
      refine wpAnyH_take (i := 7) (oi := ?oim120) (v := ?vm120) ?him120 (by kernel_rfl) (by kernel_rfl) (by kernel_rfl) ?hQm120 (Or.inl ⟨?hwm120, ?hym120⟩) hHeld ?restm120
      case him120 => simp only [List.getElem?_toArray, List.getElem?_cons_succ, List.getElem?_cons_zero]; rfl
      case hQm120 => exact fun _ _ _ h => h
      case hwm120 => rfl
      case hym120 => (intro w9 hSw; obtain ⟨k0, k1, k2, k3, k4, k5, k6, k7, k8⟩ := hSw.2.cells; go_simp; (try with_reducible rfl))
      case restm120 =>
      try simp only [Act.put, List.setIfInBounds_toArray, List.set_cons_zero, List.set_cons_succ]
      have hHe := hHeld.1
      refine wpAnyH_ready (rs := [8]) (by kernel_rfl) (by simp) (AllReadyH.cons (o := ?om121) ?im121 (fun K hK => ?_) AllReadyH.nil)
      case im121 => simp only [List.getElem?_toArray, List.getElem?_cons_succ, List.getElem?_cons_zero]; rfl
      rw [if_pos (by rfl)]
      go_simp
      go_at_call 110
      (with_reducible refine (R3 _ hHe).mono ?_)
      rintro e wz ⟨rfl, xz⟩
      refine hK.out _ _ (hHeld.ext xz) (fun hHeld => ?_)
      clear hK K
      try simp only [List.setIfInBounds_toArray, List.set_cons_zero, List.set_cons_succ]
      clear hHe
      refine wpAnyH_take (i := 9) (oi := ?oim122) (v := ?vm122) ?him122 (by kernel_rfl) (by kernel_rfl) (by kernel_rfl) ?hQm122 (Or.inl ⟨?hwm122, ?hym122⟩) hHeld ?restm122
      case him122 => simp only [List.getElem?_toArray, List.getElem?_cons_succ, List.getElem?_cons_zero]; rfl
      case hQm122 => exact fun _ _ _ h => h
      case hwm122 => rfl
      case hym122 => (intro w9 hSw; obtain ⟨k0, k1, k2, k3, k4, k5, k6, k7, k8⟩ := hSw.2.cells; go_simp; (try with_reducible rfl))
      case restm122 =>
      try simp only [Act.put, List.setIfInBounds_toArray, List.set_cons_zero, List.set_cons_succ]
      refine wpAnyH_take (i := 10) (oi := ?oim123) (v := ?vm123) ?him123 (by kernel_rfl) (by kernel_rfl) (by kernel_rfl) ?hQm123 (Or.inl ⟨?hwm123, ?hym123⟩) hHeld ?restm123
      case him123 => simp only [List.getElem?_toArray, List.getElem?_cons_succ, List.getElem?_cons_zero]; rfl
      case hQm123 => exact fun _ _ _ h => h
      case hwm123 => rfl
      case hym123 => (intro w9 hSw; obtain ⟨k0, k1, k2, k3, k4, k5, k6, k7, k8⟩ := hSw.2.cells; go_simp; (try with_reducible rfl))
      case restm123 =>
      try simp only [Act.put, List.setIfInBounds_toArray, List.set_cons_zero, List.set_cons_succ]
      refine wpAnyH_take (i := 11) (oi := ?oim124) (v := ?vm124) ?him124 (by kernel_rfl) (by kernel_rfl) (by kernel_rfl) ?hQm124 (Or.inl ⟨?hwm124, ?hym124⟩) hHeld ?restm124
      case him124 => simp only [List.getElem?_toArray, List.getElem?_cons_succ, List.getElem?_cons_zero]; rfl
      case hQm124 => exact fun _ _ _ h => h
      case hwm124 => rfl
      case hym124 => (intro w9 hSw; obtain ⟨k0, k1, k2, k3, k4, k5, k6, k7, k8⟩ := hSw.2.cells; go_simp; (try with_reducible rfl))
      case restm124 =>
      try simp only [Act.put, List.setIfInBounds_toArray, List.set_cons_zero, List.set_cons_succ]
      refine wpAnyH_ready (rs := [12]) (by kernel_rfl) (by simp) (AllReadyH.cons (o := ?om125) ?im125 (fun K hK => ?_) AllReadyH.nil)
      case im125 => simp only [List.getElem?_toArray, List.getElem?_cons_succ, List.getElem?_cons_zero]; rfl
      rw [if_pos (by rfl)]
      go_simp
      go_at_call 111
      (with_reducible refine (R4 _).mono ?_)
      rintro e wz ⟨rfl, xz⟩
      refine hK.out _ _ (hHeld.ext xz) (fun hHeld => ?_)
      clear hK K
      try simp only [List.setIfInBounds_toArray, List.set_cons_zero, List.set_cons_succ]
      refine wpAnyH_take (i := 13) (oi := ?oim126) (v := ?vm126) ?him126 (by kernel_rfl) (by kernel_rfl) (by kernel_rfl) ?hQm126 (Or.inl ⟨?hwm126, ?hym126⟩) hHeld ?restm126
      case him126 => simp only [List.getElem?_toArray, List.getElem?_cons_succ, List.getElem?_cons_zero]; rfl
      case hQm126 => exact fun _ _ _ h => h
      case hwm126 => rfl
      case hym126 => (intro w9 hSw; obtain ⟨k0, k1, k2, k3, k4, k5, k6, k7, k8⟩ := hSw.2.cells; go_simp; (try with_reducible rfl))
      case restm126 =>
      try simp only [Act.put, List.setIfInBounds_toArray, List.set_cons_zero, List.set_cons_succ]
      refine wpAnyH_take (i := 14) (oi := ?oim127) (v := ?vm127) ?him127 (by kernel_rfl) (by kernel_rfl) (by kernel_rfl) ?hQm127 (Or.inl ⟨?hwm127, ?hym127⟩) hHeld ?restm127
      case him127 => simp only [List.getElem?_toArray, List.getElem?_cons_succ, List.getElem?_cons_zero]; rfl
      case hQm127 => exact fun _ _ _ h => h
      case hwm127 => rfl
      case hym127 => (intro w9 hSw; obtain ⟨k0, k1, k2, k3, k4, k5, k6, k7, k8⟩ := hSw.2.cells; go_simp; (try with_reducible rfl))
      case restm127 =>
      try simp only [Act.put, List.setIfInBounds_toArray, List.set_cons_zero, List.set_cons_succ]
      refine wpAnyH_take (i := 15) (oi := ?oim128) (v := ?vm128) ?him128 (by kernel_rfl) (by kernel_rfl) (by kernel_rfl) ?hQm128 (Or.inl ⟨?hwm128, ?hym128⟩) hHeld ?restm128
      case him128 => simp only [List.getElem?_toArray, List.getElem?_cons_succ, List.getElem?_cons_zero]; rfl
      case hQm128 => exact fun _ _ _ h => h
      case hwm128 => rfl
      case hym128 => (intro w9 hSw; obtain ⟨k0, k1, k2, k3, k4, k5, k6, k7, k8⟩ := hSw.2.cells; go_simp; (try with_reducible rfl))
      case restm128 =>
      try simp only [Act.put, List.setIfInBounds_toArray, List.set_cons_zero, List.set_cons_succ]
      refine wpAnyH_take (i := 16) (oi := ?oim129) (v := ?vm129) ?him129 (by kernel_rfl) (by kernel_rfl) (by kernel_rfl) ?hQm129 (Or.inl ⟨?hwm129, ?hym129⟩) hHeld ?restm129
      case him129 => simp only [List.getElem?_toArray, List.getElem?_cons_succ, List.getElem?_cons_zero]; rfl
      case hQm129 => exact fun _ _ _ h => h
      case hwm129 => rfl
      case hym129 => (intro w9 hSw; obtain ⟨k0, k1, k2, k3, k4, k5, k6, k7, k8⟩ := hSw.2.cells; go_simp; (try with_reducible rfl))
      case restm129 =>
      try simp only [Act.put, List.setIfInBounds_toArray, List.set_cons_zero, List.set_cons_succ]
      refine wpAnyH_ready (rs := [17]) (by kernel_rfl) (by simp) (AllReadyH.cons (o := ?om130) ?im130 (fun K hK => ?_) AllReadyH.nil)
      case im130 => simp only [List.getElem?_toArray, List.getElem?_cons_succ, List.getElem?_cons_zero]; rfl
      rw [if_pos (by rfl)]
      go_simp
      go_at_call 112
      (with_reducible refine (R5 _).mono ?_)
      rintro e wz ⟨rfl, xz⟩
      refine hK.out _ _ (hHeld.ext xz) (fun hHeld => ?_)
      clear hK K
      try simp only [List.setIfInBounds_toArray, List.set_cons_zero, List.set_cons_succ]
      refine wpAnyH_take (i := 18) (oi := ?oim131) (v := ?vm131) ?him131 (by kernel_rfl) (by kernel_rfl) (by kernel_rfl) ?hQm131 (Or.inl ⟨?hwm131, ?hym131⟩) hHeld ?restm131
      case him131 => simp only [List.getElem?_toArray, List.getElem?_cons_succ, List.getElem?_cons_zero]; rfl
      case hQm131 => exact fun _ _ _ h => h
      case hwm131 => rfl
      case hym131 => (intro w9 hSw; obtain ⟨k0, k1, k2, k3, k4, k5, k6, k7, k8⟩ := hSw.2.cells; go_simp; (try with_reducible rfl))
      case restm131 =>
      try simp only [Act.put, List.setIfInBounds_toArray, List.set_cons_zero, List.set_cons_succ]
      refine wpAnyH_take (i := 19) (oi := ?oim132) (v := ?vm132) ?him132 (by kernel_rfl) (by kernel_rfl) (by kernel_rfl) ?hQm132 (Or.inl ⟨?hwm132, ?hym132⟩) hHeld ?restm132
      case him132 => simp only [List.getElem?_toArray, List.getElem?_cons_succ, List.getElem?_cons_zero]; rfl
      case hQm132 => exact fun _ _ _ h => h
      case hwm132 => rfl
      case hym132 => (intro w9 hSw; obtain ⟨k0, k1, k2, k3, k4, k5, k6, k7, k8⟩ := hSw.2.cells; go_simp; (try with_reducible rfl))
      case restm132 =>
      try simp only [Act.put, List.setIfInBounds_toArray, List.set_cons_zero, List.set_cons_succ]
      refine wpAnyH_take (i := 20) (oi := ?oim133) (v := ?vm133) ?him133 (by kernel_rfl) (by kernel_rfl) (by kernel_rfl) ?hQm133 (Or.inl ⟨?hwm133, ?hym133⟩) hHeld ?restm133
      case him133 => simp only [List.getElem?_toArray, List.getElem?_cons_succ, List.getElem?_cons_zero]; rfl
      case hQm133 => exact fun _ _ _ h => h
      case hwm133 => rfl
      case hym133 => (intro w9 hSw; obtain ⟨k0, k1, k2, k3, k4, k5, k6, k7, k8⟩ := hSw.2.cells; go_simp; (try with_reducible rfl))
      case restm133 =>
      try simp only [Act.put, List.setIfInBounds_toArray, List.set_cons_zero, List.set_cons_succ]
      refine wpAnyH_ready (rs := [21]) (by kernel_rfl) (by simp) (AllReadyH.cons (o := ?om134) ?im134 (fun K hK => ?_) AllReadyH.nil)
      case im134 => simp only [List.getElem?_toArray, List.getElem?_cons_succ, List.getElem?_cons_zero]; rfl
      rw [if_pos (by rfl)]
      go_simp
      go_at_call 113
      (with_reducible refine (R6 _).mono ?_)
      rintro e wz ⟨rfl, xz⟩
      refine hK.out _ _ (hHeld.ext xz) (fun hHeld => ?_)
      clear hK K
      try simp only [List.setIfInBounds_toArray, List.set_cons_zero, List.set_cons_succ]
      refine wpAnyH_take (i := 22) (oi := ?oim135) (v := ?vm135) ?him135 (by kernel_rfl) (by kernel_rfl) (by kernel_rfl) ?hQm135 (Or.inl ⟨?hwm135, ?hym135⟩) hHeld ?restm135
      case him135 => simp only [List.getElem?_toArray, List.getElem?_cons_succ, List.getElem?_cons_zero]; rfl
      case hQm135 => exact fun _ _ _ h => h
      case hwm135 => rfl
      case hym135 => (intro w9 hSw; obtain ⟨k0, k1, k2, k3, k4, k5, k6, k7, k8⟩ := hSw.2.cells; go_simp; (try with_reducible rfl))
      case restm135 =>
      try simp only [Act.put, List.setIfInBounds_toArray, List.set_cons_zero, List.set_cons_succ]
      refine wpAnyH_take (i := 23) (oi := ?oim136) (v := ?vm136) ?him136 (by kernel_rfl) (by kernel_rfl) (by kernel_rfl) ?hQm136 (Or.inl ⟨?hwm136, ?hym136⟩) hHeld ?restm136
      case him136 => simp only [List.getElem?_toArray, List.getElem?_cons_succ, List.getElem?_cons_zero]; rfl
      case hQm136 => exact fun _ _ _ h => h
      case hwm136 => rfl
      case hym136 => (intro w9 hSw; obtain ⟨k0, k1, k2, k3, k4, k5, k6, k7, k8⟩ := hSw.2.cells; go_simp; (try with_reducible rfl))
      case restm136 =>
      try simp only [Act.put, List.setIfInBounds_toArray, List.set_cons_zero, List.set_cons_succ]
      refine wpAnyH_take (i := 24) (oi := ?oim137) (v := undef) ?him137 (by kernel_rfl) (by kernel_rfl) (by kernel_rfl) ?hQm137 (Or.inr ⟨?hwm137, rfl⟩) hHeld ?restm137
      case him137 => simp only [List.getElem?_toArray, List.getElem?_cons_succ, List.getElem?_cons_zero]; rfl
      case hQm137 => exact fun _ _ _ h => h
      case hwm137 => rfl
      case restm137 =>
      try simp only [Act.put, List.setIfInBounds_toArray, List.set_cons_zero, List.set_cons_succ]
      refine wpAnyH_take (i := 25) (oi := ?oim138) (v := undef) ?him138 (by kernel_rfl) (by kernel_rfl) (by kernel_rfl) ?hQm138 (Or.inr ⟨?hwm138, rfl⟩) hHeld ?restm138
      case him138 => simp only [List.getElem?_toArray, List.getElem?_cons_succ, List.getElem?_cons_zero]; rfl
      case hQm138 => exact fun _ _ _ h => h
      case hwm138 => rfl
      case restm138 =>
      try simp only [Act.put, List.setIfInBounds_toArray, List.set_cons_zero, List.set_cons_succ]
      refine wpAnyH_take (i := 26) (oi := ?oim139) (v := ?vm139) ?him139 (by kernel_rfl) (by kernel_rfl) (by kernel_rfl) ?hQm139 (Or.inl ⟨?hwm139, ?hym139⟩) hHeld ?restm139
      case him139 => simp only [List.getElem?_toArray, List.getElem?_cons_succ, List.getElem?_cons_zero]; rfl
      case hQm139 => exact fun _ _ _ h => h
      case hwm139 => rfl
      case hym139 => (intro w9 hSw; obtain ⟨k0, k1, k2, k3, k4, k5, k6, k7, k8⟩ := hSw.2.cells; go_simp; (try with_reducible rfl))
      case restm139 =>
      try simp only [Act.put, List.setIfInBounds_toArray, List.set_cons_zero, List.set_cons_succ]
      refine wpAnyH_take (i := 27) (oi := ?oim140) (v := ?vm140) ?him140 (by kernel_rfl) (by kernel_rfl) (by kernel_rfl) ?hQm140 (Or.inl ⟨?hwm140, ?hym140⟩) hHeld ?restm140
      case him140 => simp only [List.getElem?_toArray, List.getElem?_cons_succ, List.getElem?_cons_zero]; rfl
      case hQm140 => exact fun _ _ _ h => h
      case hwm140 => rfl
      case hym140 => (intro w9 hSw; obtain ⟨k0, k1, k2, k3, k4, k5, k6, k7, k8⟩ := hSw.2.cells; go_simp; (try with_reducible rfl))
      case restm140 =>
      try simp only [Act.put, List.setIfInBounds_toArray, List.set_cons_zero, List.set_cons_succ]
      refine wpAnyH_done (by kernel_rfl) ?_ _
      have xf := hHeld.1
      go_wp2_with fail
      go_ret
      exact ⟨by first | rfl | simp, xf⟩
     ·go_enter Tryz.func79, Tryz.ntmps79
      go_wp2_with fail
      refine wp_region_held_drew (S := Pt1 w w.heap.size v r f M S m s t T) (by kernel_rfl) (hJ0.ext (Ext.refl _).drew) (fun hHeld => ?_)
      refine wpAnyH_take (i := 0) (oi := ?oim141) (v := ?vm141) ?him141 (by kernel_rfl) (by kernel_rfl) (by kernel_rfl) ?hQm141 (Or.inl ⟨?hwm141, ?hym141⟩) hHeld ?restm141
      case him141 => simp only [List.getElem?_toArray, List.getElem?_cons_zero]; rfl
      case hQm141 => exact fun _ _ _ h => h
      case hwm141 => rfl
      case hym141 => (intro w9 hSw; obtain ⟨k0, k1, k2, k3, k4, k5, k6, k7, k8⟩ := hSw.2.cells; go_simp; (try with_reducible rfl))
      case restm141 =>
      try simp only [Act.put, List.setIfInBounds_toArray, List.set_cons_zero, List.set_cons_succ]
      refine wpAnyH_take (i := 2) (oi := ?oim142) (v := ?vm142) ?him142 (by kernel_rfl) (by kernel_rfl) (by kernel_rfl) ?hQm142 (Or.inl ⟨?hwm142, ?hym142⟩) hHeld ?restm142
      case him142 => simp only [List.getElem?_toArray, List.getElem?_cons_succ, List.getElem?_cons_zero]; rfl
      case hQm142 => exact fun _ _ _ h => h
      case hwm142 => rfl
      case hym142 => (intro w9 hSw; obtain ⟨k0, k1, k2, k3, k4, k5, k6, k7, k8⟩ := hSw.2.cells; go_simp; (try with_reducible rfl))
      case restm142 =>
      try simp only [Act.put, List.setIfInBounds_toArray, List.set_cons_zero, List.set_cons_succ]
      refine wpAnyH_take (i := 3) (oi := ?oim143) (v := ?vm143) ?him143 (by kernel_rfl) (by kernel_rfl) (by kernel_rfl) ?hQm143 (Or.inl ⟨?hwm143, ?hym143⟩) hHeld ?restm143
      case him143 => simp only [List.getElem?_toArray, List.getElem?_cons_succ, List.getElem?_cons_zero]; rfl
      case hQm143 => exact fun _ _ _ h => h
      case hwm143 => rfl
      case hym143 => (intro w9 hSw; obtain ⟨k0, k1, k2, k3, k4, k5, k6, k7, k8⟩ := hSw.2.cells; go_simp; (try with_reducible rfl))
      case restm143 =>
      try simp only [Act.put, List.setIfInBounds_toArray, List.set_cons_zero, List.set_cons_succ]
      refine wpAnyH_ready (rs := [1]) (by kernel_rfl) (by simp) (AllReadyH.cons (o := ?om144) ?im144 (fun K hK => ?_) AllReadyH.nil)
      case im144 => simp only [List.getElem?_toArray, List.getElem?_cons_succ, List.getElem?_cons_zero]; rfl
      rw [if_pos (by rfl)]
      go_simp
      go_at_call 109
      (with_reducible refine (R1 _).mono ?_)
      rintro e wz ⟨⟨u, rfl, hU⟩, xz⟩
      refine hK.out _ _ (hHeld.ext xz) (fun hHeld => ?_)
      clear hK K
      try simp only [List.setIfInBounds_toArray, List.set_cons_zero, List.set_cons_succ]
      refine wpAnyH_ready (rs := [4]) (by kernel_rfl) (by simp) (AllReadyH.cons (o := ?om145) ?im145 (fun K hK => ?_) AllReadyH.nil)
      case im145 => simp only [List.getElem?_toArray, List.getElem?_cons_succ, List.getElem?_cons_zero]; rfl
      rw [if_pos (by rfl)]
      go_simp
      go_at_call 108
      (with_reducible refine (R2 _ _ ?hc5).mono ?_)
      case hc5 => exact hU
      rintro e wz ⟨rfl, xz⟩
      refine hK.out _ _ (hHeld.ext xz) (fun hHeld => ?_)
      clear hK K
      try simp only [List.setIfInBounds_toArray, List.set_cons_zero, List.set_cons_succ]
      refine wpAnyH_take (i := 5) (oi := ?oim146) (v := ?vm146) ?him146 (by kernel_rfl) (by kernel_rfl) (by kernel_rfl) ?hQm146 (Or.inl ⟨?hwm146, ?hym146⟩) hHeld ?restm146
      case him146 => simp only [List.getElem?_toArray, List.getElem?_cons_succ, List.getElem?_cons_zero]; rfl
      case hQm146 => exact fun _ _ _ h => h
      case hwm146 => rfl
      case hym146 => (intro w9 hSw; obtain ⟨k0, k1, k2, k3, k4, k5, k6, k7, k8⟩ := hSw.2.cells; go_simp; (try with_reducible rfl))
      case restm146 =>
      try simp only [Act.put, List.setIfInBounds_toArray, List.set_cons_zero, List.set_cons_succ]
      refine wpAnyH_take (i := 6) (oi := ?oim147) (v := ?vm147) ?him147 (by kernel_rfl) (by kernel_rfl) (by kernel_rfl) ?hQm147 (Or.inl ⟨?hwm147, ?hym147⟩) hHeld ?restm147
      case him147 => simp only [List.getElem?_toArray, List.getElem?_cons_succ, List.getElem?_cons_zero]; rfl
      case hQm147 => exact fun _ _ _ h => h
      case hwm147 => rfl
      case hym147 => (intro w9 hSw; obtain ⟨k0, k1, k2, k3, k4, k5, k6, k7, k8⟩ := hSw.2.cells; go_simp; (try with_reducible rfl))
      case restm147 =>
      try simp only [Act.put, List.setIfInBounds_toArray, List.set_cons_zero, List.set_cons_succ]
      refine wpAnyH_take (i := 7) (oi := ?oim148) (v := ?vm148) ?him148 (by kernel_rfl) (by kernel_rfl) (by kernel_rfl) ?hQm148 (Or.inl ⟨?hwm148, ?hym148⟩) hHeld ?restm148
      case him148 => simp only [List.getElem?_toArray, List.getElem?_cons_succ, List.getElem?_cons_zero]; rfl
      case hQm148 => exact fun _ _ _ h => h
      case hwm148 => rfl
      case hym148 => (intro w9 hSw; obtain ⟨k0, k1, k2, k3, k4, k5, k6, k7, k8⟩ := hSw.2.cells; go_simp; (try with_reducible rfl))
      case restm148 =>
      try simp only [Act.put, List.setIfInBounds_toArray, List.set_cons_zero, List.set_cons_succ]
      have hHe := hHeld.1
      refine wpAnyH_ready (rs := [8]) (by kernel_rfl) (by simp) (AllReadyH.cons (o := ?om149) ?im149 (fun K hK => ?_) AllReadyH.nil)
      case im149 => simp only [List.getElem?_toArray, List.getElem?_cons_succ, List.getElem?_cons_zero]; rfl
      rw [if_pos (by rfl)]
      go_simp
      go_at_call 110
      (with_reducible refine (R3 _ hHe).mono ?_)
      rintro e wz ⟨rfl, xz⟩
      refine hK.out _ _ (hHeld.ext xz) (fun hHeld => ?_)
      clear hK K
      try simp only [List.setIfInBounds_toArray, List.set_cons_zero, List.set_cons_succ]
      clear hHe
      refine wpAnyH_take (i := 9) (oi := ?oim150) (v := ?vm150) ?him150 (by kernel_rfl) (by kernel_rfl) (by kernel_rfl) ?hQm150 (Or.inl ⟨?hwm150, ?hym150⟩) hHeld ?restm150
      case him150 => simp only [List.getElem?_toArray, List.getElem?_cons_succ, List.getElem?_cons_zero]; rfl
      case hQm150 => exact fun _ _ _ h => h
      case hwm150 => rfl
      case hym150 => (intro w9 hSw; obtain ⟨k0, k1, k2, k3, k4, k5, k6, k7, k8⟩ := hSw.2.cells; go_simp; (try with_reducible rfl))
      case restm150 =>
      try simp only [Act.put, List.setIfInBounds_toArray, List.set_cons_zero, List.set_cons_succ]
      refine wpAnyH_take (i := 10) (oi := ?oim151) (v := ?vm151) ?him151 (by kernel_rfl) (by kernel_rfl) (by kernel_rfl) ?hQm151 (Or.inl ⟨?hwm151, ?hym151⟩) hHeld ?restm151
      case him151 => simp only [List.getElem?_toArray, List.getElem?_cons_succ, List.getElem?_cons_zero]; rfl
      case hQm151 => exact fun _ _ _ h => h
      case hwm151 => rfl
      case hym151 => (intro w9 hSw; obtain ⟨k0, k1, k2, k3, k4, k5, k6, k7, k8⟩ := hSw.2.cells; go_simp; (try with_reducible rfl))
      case restm151 =>
      try simp only [Act.put, List.setIfInBounds_toArray, List.set_cons_zero, List.set_cons_succ]
      refine wpAnyH_take (i := 11) (oi := ?oim152) (v := ?vm152) ?him152 (by kernel_rfl) (by kernel_rfl) (by kernel_rfl) ?hQm152 (Or.inl ⟨?hwm152, ?hym152⟩) hHeld ?restm152
      case him152 => simp only [List.getElem?_toArray, List.getElem?_cons_succ, List.getElem?_cons_zero]; rfl
      case hQm152 => exact fun _ _ _ h => h
      case hwm152 => rfl
      case hym152 => (intro w9 hSw; obtain ⟨k0, k1, k2, k3, k4, k5, k6, k7, k8⟩ := hSw.2.cells; go_simp; (try with_reducible rfl))
      case restm152 =>
      try simp only [Act.put, List.setIfInBounds_toArray, List.set_cons_zero, List.set_cons_succ]
      refine wpAnyH_ready (rs := [12]) (by kernel_rfl) (by simp) (AllReadyH.cons (o := ?om153) ?im153 (fun K hK => ?_) AllReadyH.nil)
      case im153 => simp only [List.getElem?_toArray, List.getElem?_cons_succ, List.getElem?_cons_zero]; rfl
      rw [if_pos (by rfl)]
      go_simp
      go_at_call 111
      (with_reducible refine (R4 _).mono ?_)
      rintro e wz ⟨rfl, xz⟩
      refine hK.out _ _ (hHeld.ext xz) (fun hHeld => ?_)
      clear hK K
      try simp only [List.setIfInBounds_toArray, List.set_cons_zero, List.set_cons_succ]
      refine wpAnyH_take (i := 13) (oi := ?oim154) (v := ?vm154) ?him154 (by kernel_rfl) (by kernel_rfl) (by kernel_rfl) ?hQm154 (Or.inl ⟨?hwm154, ?hym154⟩) hHeld ?restm154
      case him154 => simp only [List.getElem?_toArray, List.getElem?_cons_succ, List.getElem?_cons_zero]; rfl
      case hQm154 => exact fun _ _ _ h => h
      case hwm154 => rfl
      case hym154 => (intro w9 hSw; obtain ⟨k0, k1, k2, k3, k4, k5, k6, k7, k8⟩ := hSw.2.cells; go_simp; (try with_reducible rfl))
      case restm154 =>
      try simp only [Act.put, List.setIfInBounds_toArray, List.set_cons_zero, List.set_cons_succ]
      refine wpAnyH_take (i := 14) (oi := ?oim155) (v := ?vm155) ?him155 (by kernel_rfl) (by kernel_rfl) (by kernel_rfl) ?hQm155 (Or.inl ⟨?hwm155, ?hym155⟩) hHeld ?restm155
      case him155 => simp only [List.getElem?_toArray, List.getElem?_cons_succ, List.getElem?_cons_zero]; rfl
      case hQm155 => exact fun _ _ _ h => h
      case hwm155 => rfl
      case hym155 => (intro w9 hSw; obtain ⟨k0, k1, k2, k3, k4, k5, k6, k7, k8⟩ := hSw.2.cells; go_simp; (try with_reducible rfl))
      case restm155 =>
      try simp only [Act.put, List.setIfInBounds_toArray, List.set_cons_zero, List.set_cons_succ]
      refine wpAnyH_take (i := 15) (oi := ?oim156) (v := ?vm156) ?him156 (by kernel_rfl) (by kernel_rfl) (by kernel_rfl) ?hQm156 (Or.inl ⟨?hwm156, ?hym156⟩) hHeld ?restm156
      case him156 => simp only [List.getElem?_toArray, List.getElem?_cons_succ, List.getElem?_cons_zero]; rfl
      case hQm156 => exact fun _ _ _ h => h
      case hwm156 => rfl
      case hym156 => (intro w9 hSw; obtain ⟨k0, k1, k2, k3, k4, k5, k6, k7, k8⟩ := hSw.2.cells; go_simp; (try with_reducible rfl))
      case restm156 =>
      try simp only [Act.put, List.setIfInBounds_toArray, List.set_cons_zero, List.set_cons_succ]
      refine wpAnyH_take (i := 16) (oi := ?oim157) (v := ?vm157) ?him157 (by kernel_rfl) (by kernel_rfl) (by kernel_rfl) ?hQm157 (Or.inl ⟨?hwm157, ?hym157⟩) hHeld ?restm157
      case him157 => simp only [List.getElem?_toArray, List.getElem?_cons_succ, List.getElem?_cons_zero]; rfl
      case hQm157 => exact fun _ _ _ h => h
      case hwm157 => rfl
      case hym157 => (intro w9 hSw; obtain ⟨k0, k1, k2, k3, k4, k5, k6, k7, k8⟩ := hSw.2.cells; go_simp; (try with_reducible rfl))
      case restm157 =>
      try simp only [Act.put, List.setIfInBounds_toArray, List.set_cons_zero, List.set_cons_succ]
      refine wpAnyH_ready (rs := [17]) (by kernel_rfl) (by simp) (AllReadyH.cons (o := ?om158) ?im158 (fun K hK => ?_) AllReadyH.nil)
      case im158 => simp only [List.getElem?_toArray, List.getElem?_cons_succ, List.getElem?_cons_zero]; rfl
      rw [if_pos (by rfl)]
      go_simp
      go_at_call 112
      (with_reducible refine (R5 _).mono ?_)
      rintro e wz ⟨rfl, xz⟩
      refine hK.out _ _ (hHeld.ext xz) (fun hHeld => ?_)
      clear hK K
      try simp only [List.setIfInBounds_toArray, List.set_cons_zero, List.set_cons_succ]
      refine wpAnyH_take (i := 18) (oi := ?oim159) (v := ?vm159) ?him159 (by kernel_rfl) (by kernel_rfl) (by kernel_rfl) ?hQm159 (Or.inl ⟨?hwm159, ?hym159⟩) hHeld ?restm159
      case him159 => simp only [List.getElem?_toArray, List.getElem?_cons_succ, List.getElem?_cons_zero]; rfl
      case hQm159 => exact fun _ _ _ h => h
      case hwm159 => rfl
      case hym159 => (intro w9 hSw; obtain ⟨k0, k1, k2, k3, k4, k5, k6, k7, k8⟩ := hSw.2.cells; go_simp; (try with_reducible rfl))
      case restm159 =>
      try simp only [Act.put, List.setIfInBounds_toArray, List.set_cons_zero, List.set_cons_succ]
      refine wpAnyH_take (i := 19) (oi := ?oim160) (v := ?vm160) ?him160 (by kernel_rfl) (by kernel_rfl) (by kernel_rfl) ?hQm160 (Or.inl ⟨?hwm160, ?hym160⟩) hHeld ?restm160
      case him160 => simp only [List.getElem?_toArray, List.getElem?_cons_succ, List.getElem?_cons_zero]; rfl
      case hQm160 => exact fun _ _ _ h => h
      case hwm160 => rfl
      case hym160 => (intro w9 hSw; obtain ⟨k0, k1, k2, k3, k4, k5, k6, k7, k8⟩ := hSw.2.cells; go_simp; (try with_reducible rfl))
      case restm160 =>
      try simp only [Act.put, List.setIfInBounds_toArray, List.set_cons_zero, List.set_cons_succ]
      refine wpAnyH_take (i := 20) (oi := ?oim161) (v := ?vm161) ?him161 (by kernel_rfl) (by kernel_rfl) (by kernel_rfl) ?hQm161 (Or.inl ⟨?hwm161, ?hym161⟩) hHeld ?restm161
      case him161 => simp only [List.getElem?_toArray, List.getElem?_cons_succ, List.getElem?_cons_zero]; rfl
      case hQm161 => exact fun _ _ _ h => h
      case hwm161 => rfl
      case hym161 => (intro w9 hSw; obtain ⟨k0, k1, k2, k3, k4, k5, k6, k7, k8⟩ := hSw.2.cells; go_simp; (try with_reducible rfl))
      case restm161 =>
      try simp only [Act.put, List.setIfInBounds_toArray, List.set_cons_zero, List.set_cons_succ]
      refine wpAnyH_ready (rs := [21]) (by kernel_rfl) (by simp) (AllReadyH.cons (o := ?om162) ?im162 (fun K hK => ?_) AllReadyH.nil)
      case im162 => simp only [List.getElem?_toArray, List.getElem?_cons_succ, List.getElem?_cons_zero]; rfl
      rw [if_pos (by rfl)]
      go_simp
      go_at_call 113
      (with_reducible refine (R6 _).mono ?_)
      rintro e wz ⟨rfl, xz⟩
      refine hK.out _ _ (hHeld.ext xz) (fun hHeld => ?_)
      clear hK K
      try simp only [List.setIfInBounds_toArray, List.set_cons_zero, List.set_cons_succ]
      refine wpAnyH_take (i := 22) (oi := ?oim163) (v := ?vm163) ?him163 (by kernel_rfl) (by kernel_rfl) (by kernel_rfl) ?hQm163 (Or.inl ⟨?hwm163, ?hym163⟩) hHeld ?restm163
      case him163 => simp only [List.getElem?_toArray, List.getElem?_cons_succ, List.getElem?_cons_zero]; rfl
      case hQm163 => exact fun _ _ _ h => h
      case hwm163 => rfl
      case hym163 => (intro w9 hSw; obtain ⟨k0, k1, k2, k3, k4, k5, k6, k7, k8⟩ := hSw.2.cells; go_simp; (try with_reducible rfl))
      case restm163 =>
      try simp only [Act.put, List.setIfInBounds_toArray, List.set_cons_zero, List.set_cons_succ]
      refine wpAnyH_take (i := 23) (oi := ?oim164) (v := ?vm164) ?him164 (by kernel_rfl) (by kernel_rfl) (by kernel_rfl) ?hQm164 (Or.inl ⟨?hwm164, ?hym164⟩) hHeld ?restm164
      case him164 => simp only [List.getElem?_toArray, List.getElem?_cons_succ, List.getElem?_cons_zero]; rfl
      case hQm164 => exact fun _ _ _ h => h
      case hwm164 => rfl
      case hym164 => (intro w9 hSw; obtain ⟨k0, k1, k2, k3, k4, k5, k6, k7, k8⟩ := hSw.2.cells; go_simp; (try with_reducible rfl))
      case restm164 =>
      try simp only [Act.put, List.setIfInBounds_toArray, List.set_cons_zero, List.set_cons_succ]
      refine wpAnyH_take (i := 24) (oi := ?oim165) (v := ?vm165) ?him165 (by kernel_rfl) (by kernel_rfl) (by kernel_rfl) ?hQm165 (Or.inl ⟨?hwm165, ?hym165⟩) hHeld ?restm165
      case him165 => simp only [List.getElem?_toArray, List.getElem?_cons_succ, List.getElem?_cons_zero]; rfl
      case hQm165 => exact fun _ _ _ h => h
      case hwm165 => rfl
      case hym165 => (intro w9 hSw; obtain ⟨k0, k1, k2, k3, k4, k5, k6, k7, k8⟩ := hSw.2.cells; go_simp; (try with_reducible rfl))
      case restm165 =>
      try simp only [Act.put, List.setIfInBounds_toArray, List.set_cons_zero, List.set_cons_succ]
      have hHe := hHeld.1
      refine wpAnyH_ready (rs := [25]) (by kernel_rfl) (by simp) (AllReadyH.cons (o := ?om166) ?im166 (fun K hK => ?_) AllReadyH.nil)
      case im166 => simp only [List.getElem?_toArray, List.getElem?_cons_succ, List.getElem?_cons_zero]; rfl
      rw [if_pos (by rfl)]
      go_simp
      go_at_call 114
      (with_reducible refine (R7 _ hHe).mono ?_)
      rintro e wz ⟨rfl, xz⟩
      refine hK.out _ _ (hHeld.ext xz) (fun hHeld => ?_)
      clear hK K
      try simp only [List.setIfInBounds_toArray, List.set_cons_zero, List.set_cons_succ]
      clear hHe
      refine wpAnyH_take (i := 26) (oi := ?oim167) (v := ?vm167) ?him167 (by kernel_rfl) (by kernel_rfl) (by kernel_rfl) ?hQm167 (Or.inl ⟨?hwm167, ?hym167⟩) hHeld ?restm167
      case him167 => simp only [List.getElem?_toArray, List.getElem?_cons_succ, List.getElem?_cons_zero]; rfl
      case hQm167 => exact fun _ _ _ h => h
      case hwm167 => rfl
      case hym167 => (intro w9 hSw; obtain ⟨k0, k1, k2, k3, k4, k5, k6, k7, k8⟩ := hSw.2.cells; go_simp; (try with_reducible rfl))
      case restm167 =>
      try simp only [Act.put, List.setIfInBounds_toArray, List.set_cons_zero, List.set_cons_succ]
      refine wpAnyH_take (i := 27) (oi := ?oim168) (v := ?vm168) ?him168 (by kernel_rfl) (by kernel_rfl) (by kernel_rfl) ?hQm168 (Or.inl ⟨?hwm168, ?hym168⟩) hHeld ?restm168
      case him168 => simp only [List.getElem?_toArray, List.getElem?_cons_succ, List.getElem?_cons_zero]; rfl
      case hQm168 => exact fun _ _ _ h => h
      case hwm168 => rfl
      case hym168 => (intro w9 hSw; obtain ⟨k0, k1, k2, k3, k4, k5, k6, k7, k8⟩ := hSw.2.cells; go_simp; (try with_reducible rfl))
      case restm168 =>
      try simp only [Act.put, List.setIfInBounds_toArray, List.set_cons_zero, List.set_cons_succ]
      refine wpAnyH_done (by kernel_rfl) ?_ _
      have xf := hHeld.1
      go_wp2_with fail
      go_ret
      exact ⟨by first | rfl | simp, xf⟩
end Go.Proofs.YtjjnmefihdjglaaGreat
