import Derived.Test.YtjjnmefihdjglaaGreatGF
import Derived.Test.YtjjnmefihdjglaaGreatPtOrd
namespace Go.Proofs.YtjjnmefihdjglaaGreat
open Go.RowKit
structure PtD where
 a : Option Addr
 c : Nat
 l : List (ByteArray × ByteArray)
 r : Int
 f : Bool
 M : Int
 S : Int
 m : Int
 s : Int
 t : Bool
 T : Int
def PtD.v (p : PtD) : Value := ptV (.slice p.a p.l.length p.c) p.r p.f p.M p.S p.m p.s p.t p.T
def PtD.Ok (p : PtD) (w : World) : Prop := (p.l.length : Int) ≤ 9223372036854775807 ∧ LabA p.a p.l w ∧ (∀ x ∈ p.l, x.1.size ≤ 9223372036854775807 ∧ x.2.size ≤ 9223372036854775807) ∧ (I64 p.M ∧ I64 p.S) ∧ (I64 p.m ∧ I64 p.s)
theorem PtD.Ok.ext {p : PtD} {w w' : World} (h : p.Ok w) (x : Ext w w') : p.Ok w' := ⟨h.1, h.2.1.ext x, h.2.2⟩
def PtD.k (p : PtD) : PtK := ⟨p.l, p.r, p.f, p.M, p.S, p.t, p.T⟩
def PtsAt (b o : Nat) (l : List PtD) (w : World) : Prop := ∀ i (h : i < l.length), w.cell? ⟨b, o + i * 9, none⟩ = some (.slice (l[i]).a (l[i]).l.length (l[i]).c) ∧ w.cell? ⟨b, o + i * 9 + 1, none⟩ = some (.int .i64 (l[i]).r) ∧ w.cell? ⟨b, o + i * 9 + 2, none⟩ = some (.bool (l[i]).f) ∧ w.cell? ⟨b, o + i * 9 + 3, none⟩ = some (.int .i64 (l[i]).M) ∧ w.cell? ⟨b, o + i * 9 + 4, none⟩ = some (.int .i64 (l[i]).S) ∧ w.cell? ⟨b, o + i * 9 + 5, none⟩ = some (.int .i64 (l[i]).m) ∧ w.cell? ⟨b, o + i * 9 + 6, none⟩ = some (.int .i64 (l[i]).s) ∧ w.cell? ⟨b, o + i * 9 + 7, none⟩ = some (.bool (l[i]).t) ∧ w.cell? ⟨b, o + i * 9 + 8, none⟩ = some (.int .i64 (l[i]).T)
def PtsA (a : Option Addr) (l : List PtD) (w : World) : Prop := (0 < l.length → ∃ b o, a = some ⟨b, o, none⟩ ∧ b < w.heap.size ∧ PtsAt b o l w) ∧ ∀ p ∈ l, p.Ok w
theorem PtsA.ext {a : Option Addr} {l : List PtD} {w w' : World} (h : PtsA a l w) (x : Ext w w') : PtsA a l w' := by
 refine ⟨fun h0 => ?_, fun p hp => (h.2 p hp).ext x⟩
 obtain ⟨b, o, rfl, hb, hl⟩ := h.1 h0
 refine ⟨b, o, rfl, Nat.lt_of_lt_of_le hb x.size, fun i hi => ?_⟩
 obtain ⟨h0, h1, h2, h3, h4, h5, h6, h7, h8⟩ := hl i hi
 exact ⟨(x.cell hb).trans h0, (x.cell hb).trans h1, (x.cell hb).trans h2, (x.cell hb).trans h3, (x.cell hb).trans h4, (x.cell hb).trans h5, (x.cell hb).trans h6, (x.cell hb).trans h7, (x.cell hb).trans h8⟩
theorem cmpD_any (p q : PtD) (w : World) (hp : p.Ok w) (hq : q.Ok w) :
  Calls Tryz.prog 56 #[p.v, q.v] w fun e w' => e = .returned (.int .i64 (cmpK p.k q.k)) ∧ Ext w w' :=
 ptCompare_any p.a q.a p.c q.c p.l q.l p.r p.f p.M p.S p.m p.s p.t p.T q.r q.f q.M q.S q.m q.s q.t q.T w hp.1 hq.1 hp.2.1 hq.2.1 hp.2.2.2.1.1 hp.2.2.2.1.2 hq.2.2.2.1.1 hq.2.2.2.1.2
def risesK : List PtK → Bool
 | p :: q :: l => decide (cmpK p q < 0) && risesK (q :: l)
 | _ => true
set_option maxHeartbeats 8000000 in
set_option maxRecDepth 100000 in
theorem rises_any (a : Option Addr) (c : Nat) (l : List PtD) (w : World) (hl : (l.length : Int) ≤ 9223372036854775807) (hA : PtsA a l w) :
  Calls Tryz.prog 70 #[.slice a l.length c] w fun e w' => e = .returned (.bool (risesK (l.map PtD.k))) ∧ Ext w w' := by
 obtain ⟨R, hR⟩ : ∃ R, risesK (l.map PtD.k) = R := ⟨_, rfl⟩
 rw [hR]
 go_enter Tryz.func70, Tryz.ntmps70
 go_wp2_with fail
 go_loopw [3] (fun i wr => ∃ k : Nat, i = .int .i64 ((k + 1 : Nat) : Int) ∧ (k + 1 ≤ l.length ∨ l.length = 0 ∧ k = 0) ∧ Hid (risesK ((l.drop k).map PtD.k) = R) ∧ Ext w wr) (fun i _ => l.length - (intOf i).toNat)
 case atStart => exact ⟨0, rfl, by omega, Lib.hid hR, Ext.refl _⟩
 case round =>
  obtain ⟨k, rfl, hk, hg, xr⟩ := hrel
  clear hR
  by_cases hlt : k + 1 < l.length
  ·have hd := hg.out
   rw [List.drop_eq_getElem_cons (show k < l.length from by omega), List.drop_eq_getElem_cons hlt, List.map_cons, List.map_cons, risesK] at hd
   obtain ⟨b, o, rfl, hb, hL⟩ := hA.1 (by omega)
   have ok1 := (hA.2 _ (List.getElem_mem (show k < l.length from by omega))).ext xr.drew
   have ok2 := (hA.2 _ (List.getElem_mem hlt)).ext xr.drew
   have L1 := hL k (by omega)
   have L2 := hL (k + 1) hlt
   have hd2 : Hid (risesK ((l.drop (k + 1)).map PtD.k) = risesK ((l[k + 1]).k :: (l.drop (k + 1 + 1)).map PtD.k)) := Lib.hid (by rw [List.drop_eq_getElem_cons hlt, List.map_cons])
   generalize l[k] = p at *
   generalize l[k + 1] = q at *
   have C := cmpD_any p q wr.drew ok1 ok2
   obtain ⟨cv, hcv⟩ : ∃ cv, cmpK p.k q.k = cv := ⟨_, rfl⟩
   rw [hcv] at C hd
   unfold PtD.v ptV at C
   have e1 : IntKind.i64.wrap (k : Int) = (k : Int) := IntWalk.i64_in _ (by omega)
   have e2 : (k : Int) + 1 < (l.length : Int) := by omega
   have e3 : (0 : Int) ≤ (k : Int) + 1 := by omega
   have e4 : (k : Int) < (l.length : Int) := by omega
   clear hL ok1 ok2 hA hcv hg
   by_cases h0 : cv < 0
   ·rw [decide_eq_true h0, Bool.true_and, ← hd2.out] at hd
    replace hd := Lib.hid hd
    have hk2 : ¬ cv ≥ 0 := by omega
    clear hd2
    go_wp2_with fail
    refine wp_region_held_drew (S := Ext w) (by kernel_rfl) (xr.drew) (fun hHeld => ?_)
    refine wpAnyH_take (i := 0) (oi := ?oim1) (v := ?vm1) ?him1 (by kernel_rfl) (by kernel_rfl) (by kernel_rfl) ?hQm1 (Or.inl ⟨?hwm1, ?hym1⟩) hHeld ?restm1
    case him1 => simp only [List.getElem?_toArray, List.getElem?_cons_zero]; rfl
    case hQm1 => exact fun _ _ _ h => h
    case hwm1 => rfl
    case hym1 => (intro w9 hSw; obtain ⟨k0, k1, k2, k3, k4, k5, k6, k7, k8⟩ := L1; obtain ⟨p0, p1, p2, p3, p4, p5, p6, p7, p8⟩ := L2; replace k0 := (Ext.cell hSw hb).trans k0; replace k1 := (Ext.cell hSw hb).trans k1; replace k2 := (Ext.cell hSw hb).trans k2; replace k3 := (Ext.cell hSw hb).trans k3; replace k4 := (Ext.cell hSw hb).trans k4; replace k5 := (Ext.cell hSw hb).trans k5; replace k6 := (Ext.cell hSw hb).trans k6; replace k7 := (Ext.cell hSw hb).trans k7; replace k8 := (Ext.cell hSw hb).trans k8; replace p0 := (Ext.cell hSw hb).trans p0; replace p1 := (Ext.cell hSw hb).trans p1; replace p2 := (Ext.cell hSw hb).trans p2; replace p3 := (Ext.cell hSw hb).trans p3; replace p4 := (Ext.cell hSw hb).trans p4; replace p5 := (Ext.cell hSw hb).trans p5; replace p6 := (Ext.cell hSw hb).trans p6; replace p7 := (Ext.cell hSw hb).trans p7; replace p8 := (Ext.cell hSw hb).trans p8; go_simp; (try with_reducible rfl))
    case restm1 =>
    try simp only [Act.put, List.setIfInBounds_toArray, List.set_cons_zero, List.set_cons_succ]
    refine wpAnyH_take (i := 1) (oi := ?oim2) (v := ?vm2) ?him2 (by kernel_rfl) (by kernel_rfl) (by kernel_rfl) ?hQm2 (Or.inl ⟨?hwm2, ?hym2⟩) hHeld ?restm2
    case him2 => simp only [List.getElem?_toArray, List.getElem?_cons_succ, List.getElem?_cons_zero]; rfl
    case hQm2 => exact fun _ _ _ h => h
    case hwm2 => rfl
    case hym2 => (intro w9 hSw; obtain ⟨k0, k1, k2, k3, k4, k5, k6, k7, k8⟩ := L1; obtain ⟨p0, p1, p2, p3, p4, p5, p6, p7, p8⟩ := L2; replace k0 := (Ext.cell hSw hb).trans k0; replace k1 := (Ext.cell hSw hb).trans k1; replace k2 := (Ext.cell hSw hb).trans k2; replace k3 := (Ext.cell hSw hb).trans k3; replace k4 := (Ext.cell hSw hb).trans k4; replace k5 := (Ext.cell hSw hb).trans k5; replace k6 := (Ext.cell hSw hb).trans k6; replace k7 := (Ext.cell hSw hb).trans k7; replace k8 := (Ext.cell hSw hb).trans k8; replace p0 := (Ext.cell hSw hb).trans p0; replace p1 := (Ext.cell hSw hb).trans p1; replace p2 := (Ext.cell hSw hb).trans p2; replace p3 := (Ext.cell hSw hb).trans p3; replace p4 := (Ext.cell hSw hb).trans p4; replace p5 := (Ext.cell hSw hb).trans p5; replace p6 := (Ext.cell hSw hb).trans p6; replace p7 := (Ext.cell hSw hb).trans p7; replace p8 := (Ext.cell hSw hb).trans p8; go_simp; (try with_reducible rfl))
    case restm2 =>
    try simp only [Act.put, List.setIfInBounds_toArray, List.set_cons_zero, List.set_cons_succ]
    refine wpAnyH_take (i := 2) (oi := ?oim3) (v := ?vm3) ?him3 (by kernel_rfl) (by kernel_rfl) (by kernel_rfl) ?hQm3 (Or.inl ⟨?hwm3, ?hym3⟩) hHeld ?restm3
    case him3 => simp only [List.getElem?_toArray, List.getElem?_cons_succ, List.getElem?_cons_zero]; rfl
    case hQm3 => exact fun _ _ _ h => h
    case hwm3 => rfl
    case hym3 => (intro w9 hSw; obtain ⟨k0, k1, k2, k3, k4, k5, k6, k7, k8⟩ := L1; obtain ⟨p0, p1, p2, p3, p4, p5, p6, p7, p8⟩ := L2; replace k0 := (Ext.cell hSw hb).trans k0; replace k1 := (Ext.cell hSw hb).trans k1; replace k2 := (Ext.cell hSw hb).trans k2; replace k3 := (Ext.cell hSw hb).trans k3; replace k4 := (Ext.cell hSw hb).trans k4; replace k5 := (Ext.cell hSw hb).trans k5; replace k6 := (Ext.cell hSw hb).trans k6; replace k7 := (Ext.cell hSw hb).trans k7; replace k8 := (Ext.cell hSw hb).trans k8; replace p0 := (Ext.cell hSw hb).trans p0; replace p1 := (Ext.cell hSw hb).trans p1; replace p2 := (Ext.cell hSw hb).trans p2; replace p3 := (Ext.cell hSw hb).trans p3; replace p4 := (Ext.cell hSw hb).trans p4; replace p5 := (Ext.cell hSw hb).trans p5; replace p6 := (Ext.cell hSw hb).trans p6; replace p7 := (Ext.cell hSw hb).trans p7; replace p8 := (Ext.cell hSw hb).trans p8; go_simp; (try with_reducible rfl))
    case restm3 =>
    try simp only [Act.put, List.setIfInBounds_toArray, List.set_cons_zero, List.set_cons_succ]
    refine wpAnyH_take (i := 3) (oi := ?oim4) (v := ?vm4) ?him4 (by kernel_rfl) (by kernel_rfl) (by kernel_rfl) ?hQm4 (Or.inl ⟨?hwm4, ?hym4⟩) hHeld ?restm4
    case him4 => simp only [List.getElem?_toArray, List.getElem?_cons_succ, List.getElem?_cons_zero]; rfl
    case hQm4 => exact fun _ _ _ h => h
    case hwm4 => rfl
    case hym4 => (intro w9 hSw; obtain ⟨k0, k1, k2, k3, k4, k5, k6, k7, k8⟩ := L1; obtain ⟨p0, p1, p2, p3, p4, p5, p6, p7, p8⟩ := L2; replace k0 := (Ext.cell hSw hb).trans k0; replace k1 := (Ext.cell hSw hb).trans k1; replace k2 := (Ext.cell hSw hb).trans k2; replace k3 := (Ext.cell hSw hb).trans k3; replace k4 := (Ext.cell hSw hb).trans k4; replace k5 := (Ext.cell hSw hb).trans k5; replace k6 := (Ext.cell hSw hb).trans k6; replace k7 := (Ext.cell hSw hb).trans k7; replace k8 := (Ext.cell hSw hb).trans k8; replace p0 := (Ext.cell hSw hb).trans p0; replace p1 := (Ext.cell hSw hb).trans p1; replace p2 := (Ext.cell hSw hb).trans p2; replace p3 := (Ext.cell hSw hb).trans p3; replace p4 := (Ext.cell hSw hb).trans p4; replace p5 := (Ext.cell hSw hb).trans p5; replace p6 := (Ext.cell hSw hb).trans p6; replace p7 := (Ext.cell hSw hb).trans p7; replace p8 := (Ext.cell hSw hb).trans p8; go_simp; (try with_reducible rfl))
    case restm4 =>
    try simp only [Act.put, List.setIfInBounds_toArray, List.set_cons_zero, List.set_cons_succ]
    refine wpAnyH_take (i := 4) (oi := ?oim5) (v := ?vm5) ?him5 (by kernel_rfl) (by kernel_rfl) (by kernel_rfl) ?hQm5 (Or.inl ⟨?hwm5, ?hym5⟩) hHeld ?restm5
    case him5 => simp only [List.getElem?_toArray, List.getElem?_cons_succ, List.getElem?_cons_zero]; rfl
    case hQm5 => exact fun _ _ _ h => h
    case hwm5 => rfl
    case hym5 => (intro w9 hSw; obtain ⟨k0, k1, k2, k3, k4, k5, k6, k7, k8⟩ := L1; obtain ⟨p0, p1, p2, p3, p4, p5, p6, p7, p8⟩ := L2; replace k0 := (Ext.cell hSw hb).trans k0; replace k1 := (Ext.cell hSw hb).trans k1; replace k2 := (Ext.cell hSw hb).trans k2; replace k3 := (Ext.cell hSw hb).trans k3; replace k4 := (Ext.cell hSw hb).trans k4; replace k5 := (Ext.cell hSw hb).trans k5; replace k6 := (Ext.cell hSw hb).trans k6; replace k7 := (Ext.cell hSw hb).trans k7; replace k8 := (Ext.cell hSw hb).trans k8; replace p0 := (Ext.cell hSw hb).trans p0; replace p1 := (Ext.cell hSw hb).trans p1; replace p2 := (Ext.cell hSw hb).trans p2; replace p3 := (Ext.cell hSw hb).trans p3; replace p4 := (Ext.cell hSw hb).trans p4; replace p5 := (Ext.cell hSw hb).trans p5; replace p6 := (Ext.cell hSw hb).trans p6; replace p7 := (Ext.cell hSw hb).trans p7; replace p8 := (Ext.cell hSw hb).trans p8; go_simp; (try with_reducible rfl))
    case restm5 =>
    try simp only [Act.put, List.setIfInBounds_toArray, List.set_cons_zero, List.set_cons_succ]
    refine wpAnyH_take (i := 5) (oi := ?oim6) (v := ?vm6) ?him6 (by kernel_rfl) (by kernel_rfl) (by kernel_rfl) ?hQm6 (Or.inl ⟨?hwm6, ?hym6⟩) hHeld ?restm6
    case him6 => simp only [List.getElem?_toArray, List.getElem?_cons_succ, List.getElem?_cons_zero]; rfl
    case hQm6 => exact fun _ _ _ h => h
    case hwm6 => rfl
    case hym6 => (intro w9 hSw; obtain ⟨k0, k1, k2, k3, k4, k5, k6, k7, k8⟩ := L1; obtain ⟨p0, p1, p2, p3, p4, p5, p6, p7, p8⟩ := L2; replace k0 := (Ext.cell hSw hb).trans k0; replace k1 := (Ext.cell hSw hb).trans k1; replace k2 := (Ext.cell hSw hb).trans k2; replace k3 := (Ext.cell hSw hb).trans k3; replace k4 := (Ext.cell hSw hb).trans k4; replace k5 := (Ext.cell hSw hb).trans k5; replace k6 := (Ext.cell hSw hb).trans k6; replace k7 := (Ext.cell hSw hb).trans k7; replace k8 := (Ext.cell hSw hb).trans k8; replace p0 := (Ext.cell hSw hb).trans p0; replace p1 := (Ext.cell hSw hb).trans p1; replace p2 := (Ext.cell hSw hb).trans p2; replace p3 := (Ext.cell hSw hb).trans p3; replace p4 := (Ext.cell hSw hb).trans p4; replace p5 := (Ext.cell hSw hb).trans p5; replace p6 := (Ext.cell hSw hb).trans p6; replace p7 := (Ext.cell hSw hb).trans p7; replace p8 := (Ext.cell hSw hb).trans p8; go_simp; (try with_reducible rfl))
    case restm6 =>
    try simp only [Act.put, List.setIfInBounds_toArray, List.set_cons_zero, List.set_cons_succ]
    refine wpAnyH_take (i := 6) (oi := ?oim7) (v := ?vm7) ?him7 (by kernel_rfl) (by kernel_rfl) (by kernel_rfl) ?hQm7 (Or.inl ⟨?hwm7, ?hym7⟩) hHeld ?restm7
    case him7 => simp only [List.getElem?_toArray, List.getElem?_cons_succ, List.getElem?_cons_zero]; rfl
    case hQm7 => exact fun _ _ _ h => h
    case hwm7 => rfl
    case hym7 => (intro w9 hSw; obtain ⟨k0, k1, k2, k3, k4, k5, k6, k7, k8⟩ := L1; obtain ⟨p0, p1, p2, p3, p4, p5, p6, p7, p8⟩ := L2; replace k0 := (Ext.cell hSw hb).trans k0; replace k1 := (Ext.cell hSw hb).trans k1; replace k2 := (Ext.cell hSw hb).trans k2; replace k3 := (Ext.cell hSw hb).trans k3; replace k4 := (Ext.cell hSw hb).trans k4; replace k5 := (Ext.cell hSw hb).trans k5; replace k6 := (Ext.cell hSw hb).trans k6; replace k7 := (Ext.cell hSw hb).trans k7; replace k8 := (Ext.cell hSw hb).trans k8; replace p0 := (Ext.cell hSw hb).trans p0; replace p1 := (Ext.cell hSw hb).trans p1; replace p2 := (Ext.cell hSw hb).trans p2; replace p3 := (Ext.cell hSw hb).trans p3; replace p4 := (Ext.cell hSw hb).trans p4; replace p5 := (Ext.cell hSw hb).trans p5; replace p6 := (Ext.cell hSw hb).trans p6; replace p7 := (Ext.cell hSw hb).trans p7; replace p8 := (Ext.cell hSw hb).trans p8; go_simp; (try with_reducible rfl))
    case restm7 =>
    try simp only [Act.put, List.setIfInBounds_toArray, List.set_cons_zero, List.set_cons_succ]
    refine wpAnyH_take (i := 7) (oi := ?oim8) (v := ?vm8) ?him8 (by kernel_rfl) (by kernel_rfl) (by kernel_rfl) ?hQm8 (Or.inl ⟨?hwm8, ?hym8⟩) hHeld ?restm8
    case him8 => simp only [List.getElem?_toArray, List.getElem?_cons_succ, List.getElem?_cons_zero]; rfl
    case hQm8 => exact fun _ _ _ h => h
    case hwm8 => rfl
    case hym8 => (intro w9 hSw; obtain ⟨k0, k1, k2, k3, k4, k5, k6, k7, k8⟩ := L1; obtain ⟨p0, p1, p2, p3, p4, p5, p6, p7, p8⟩ := L2; replace k0 := (Ext.cell hSw hb).trans k0; replace k1 := (Ext.cell hSw hb).trans k1; replace k2 := (Ext.cell hSw hb).trans k2; replace k3 := (Ext.cell hSw hb).trans k3; replace k4 := (Ext.cell hSw hb).trans k4; replace k5 := (Ext.cell hSw hb).trans k5; replace k6 := (Ext.cell hSw hb).trans k6; replace k7 := (Ext.cell hSw hb).trans k7; replace k8 := (Ext.cell hSw hb).trans k8; replace p0 := (Ext.cell hSw hb).trans p0; replace p1 := (Ext.cell hSw hb).trans p1; replace p2 := (Ext.cell hSw hb).trans p2; replace p3 := (Ext.cell hSw hb).trans p3; replace p4 := (Ext.cell hSw hb).trans p4; replace p5 := (Ext.cell hSw hb).trans p5; replace p6 := (Ext.cell hSw hb).trans p6; replace p7 := (Ext.cell hSw hb).trans p7; replace p8 := (Ext.cell hSw hb).trans p8; go_simp; (try with_reducible rfl))
    case restm8 =>
    try simp only [Act.put, List.setIfInBounds_toArray, List.set_cons_zero, List.set_cons_succ]
    refine wpAnyH_take (i := 8) (oi := ?oim9) (v := ?vm9) ?him9 (by kernel_rfl) (by kernel_rfl) (by kernel_rfl) ?hQm9 (Or.inl ⟨?hwm9, ?hym9⟩) hHeld ?restm9
    case him9 => simp only [List.getElem?_toArray, List.getElem?_cons_succ, List.getElem?_cons_zero]; rfl
    case hQm9 => exact fun _ _ _ h => h
    case hwm9 => rfl
    case hym9 => (intro w9 hSw; obtain ⟨k0, k1, k2, k3, k4, k5, k6, k7, k8⟩ := L1; obtain ⟨p0, p1, p2, p3, p4, p5, p6, p7, p8⟩ := L2; replace k0 := (Ext.cell hSw hb).trans k0; replace k1 := (Ext.cell hSw hb).trans k1; replace k2 := (Ext.cell hSw hb).trans k2; replace k3 := (Ext.cell hSw hb).trans k3; replace k4 := (Ext.cell hSw hb).trans k4; replace k5 := (Ext.cell hSw hb).trans k5; replace k6 := (Ext.cell hSw hb).trans k6; replace k7 := (Ext.cell hSw hb).trans k7; replace k8 := (Ext.cell hSw hb).trans k8; replace p0 := (Ext.cell hSw hb).trans p0; replace p1 := (Ext.cell hSw hb).trans p1; replace p2 := (Ext.cell hSw hb).trans p2; replace p3 := (Ext.cell hSw hb).trans p3; replace p4 := (Ext.cell hSw hb).trans p4; replace p5 := (Ext.cell hSw hb).trans p5; replace p6 := (Ext.cell hSw hb).trans p6; replace p7 := (Ext.cell hSw hb).trans p7; replace p8 := (Ext.cell hSw hb).trans p8; go_simp; (try with_reducible rfl))
    case restm9 =>
    try simp only [Act.put, List.setIfInBounds_toArray, List.set_cons_zero, List.set_cons_succ]
    refine wpAnyH_ready (rs := [9]) (by kernel_rfl) (by simp) (AllReadyH.cons (o := ?om10) ?im10 (fun K hK => ?_) AllReadyH.nil)
    case im10 => simp only [List.getElem?_toArray, List.getElem?_cons_succ, List.getElem?_cons_zero]; rfl
    rw [if_pos (by rfl)]
    go_simp
    go_at_call 56
    (with_reducible refine (C).mono ?_)
    rintro e wz ⟨rfl, xz⟩
    refine hK.out _ _ (Ext.trans hHeld xz) (fun hHeld => ?_)
    clear hK K
    try simp only [List.setIfInBounds_toArray, List.set_cons_zero, List.set_cons_succ]
    refine wpAnyH_take (i := 10) (oi := ?oim11) (v := ?vm11) ?him11 (by kernel_rfl) (by kernel_rfl) (by kernel_rfl) ?hQm11 (Or.inl ⟨?hwm11, ?hym11⟩) hHeld ?restm11
    case him11 => simp only [List.getElem?_toArray, List.getElem?_cons_succ, List.getElem?_cons_zero]; rfl
    case hQm11 => exact fun _ _ _ h => h
    case hwm11 => rfl
    case hym11 => (intro w9 hSw; skip; go_simp; (try with_reducible rfl))
    case restm11 =>
    try simp only [Act.put, List.setIfInBounds_toArray, List.set_cons_zero, List.set_cons_succ]
    refine wpAnyH_done (by kernel_rfl) ?_ _
    go_wp2_with fail
    go_roundw
    case rel => exact ⟨k + 1, rfl, .inl hlt, hd, hHeld⟩
    case measure => simp only [intOf]; omega
   ·rw [decide_eq_false h0, Bool.false_and] at hd
    have HV : Hid (R = false) := Lib.hid hd.symm
    have hk2 : cv ≥ 0 := by omega
    clear hd2 hd
    go_wp2_with fail
    refine wp_region_held_drew (S := Ext w) (by kernel_rfl) (xr.drew) (fun hHeld => ?_)
    refine wpAnyH_take (i := 0) (oi := ?oim12) (v := ?vm12) ?him12 (by kernel_rfl) (by kernel_rfl) (by kernel_rfl) ?hQm12 (Or.inl ⟨?hwm12, ?hym12⟩) hHeld ?restm12
    case him12 => simp only [List.getElem?_toArray, List.getElem?_cons_zero]; rfl
    case hQm12 => exact fun _ _ _ h => h
    case hwm12 => rfl
    case hym12 => (intro w9 hSw; obtain ⟨k0, k1, k2, k3, k4, k5, k6, k7, k8⟩ := L1; obtain ⟨p0, p1, p2, p3, p4, p5, p6, p7, p8⟩ := L2; replace k0 := (Ext.cell hSw hb).trans k0; replace k1 := (Ext.cell hSw hb).trans k1; replace k2 := (Ext.cell hSw hb).trans k2; replace k3 := (Ext.cell hSw hb).trans k3; replace k4 := (Ext.cell hSw hb).trans k4; replace k5 := (Ext.cell hSw hb).trans k5; replace k6 := (Ext.cell hSw hb).trans k6; replace k7 := (Ext.cell hSw hb).trans k7; replace k8 := (Ext.cell hSw hb).trans k8; replace p0 := (Ext.cell hSw hb).trans p0; replace p1 := (Ext.cell hSw hb).trans p1; replace p2 := (Ext.cell hSw hb).trans p2; replace p3 := (Ext.cell hSw hb).trans p3; replace p4 := (Ext.cell hSw hb).trans p4; replace p5 := (Ext.cell hSw hb).trans p5; replace p6 := (Ext.cell hSw hb).trans p6; replace p7 := (Ext.cell hSw hb).trans p7; replace p8 := (Ext.cell hSw hb).trans p8; go_simp; (try with_reducible rfl))
    case restm12 =>
    try simp only [Act.put, List.setIfInBounds_toArray, List.set_cons_zero, List.set_cons_succ]
    refine wpAnyH_take (i := 1) (oi := ?oim13) (v := ?vm13) ?him13 (by kernel_rfl) (by kernel_rfl) (by kernel_rfl) ?hQm13 (Or.inl ⟨?hwm13, ?hym13⟩) hHeld ?restm13
    case him13 => simp only [List.getElem?_toArray, List.getElem?_cons_succ, List.getElem?_cons_zero]; rfl
    case hQm13 => exact fun _ _ _ h => h
    case hwm13 => rfl
    case hym13 => (intro w9 hSw; obtain ⟨k0, k1, k2, k3, k4, k5, k6, k7, k8⟩ := L1; obtain ⟨p0, p1, p2, p3, p4, p5, p6, p7, p8⟩ := L2; replace k0 := (Ext.cell hSw hb).trans k0; replace k1 := (Ext.cell hSw hb).trans k1; replace k2 := (Ext.cell hSw hb).trans k2; replace k3 := (Ext.cell hSw hb).trans k3; replace k4 := (Ext.cell hSw hb).trans k4; replace k5 := (Ext.cell hSw hb).trans k5; replace k6 := (Ext.cell hSw hb).trans k6; replace k7 := (Ext.cell hSw hb).trans k7; replace k8 := (Ext.cell hSw hb).trans k8; replace p0 := (Ext.cell hSw hb).trans p0; replace p1 := (Ext.cell hSw hb).trans p1; replace p2 := (Ext.cell hSw hb).trans p2; replace p3 := (Ext.cell hSw hb).trans p3; replace p4 := (Ext.cell hSw hb).trans p4; replace p5 := (Ext.cell hSw hb).trans p5; replace p6 := (Ext.cell hSw hb).trans p6; replace p7 := (Ext.cell hSw hb).trans p7; replace p8 := (Ext.cell hSw hb).trans p8; go_simp; (try with_reducible rfl))
    case restm13 =>
    try simp only [Act.put, List.setIfInBounds_toArray, List.set_cons_zero, List.set_cons_succ]
    refine wpAnyH_take (i := 2) (oi := ?oim14) (v := ?vm14) ?him14 (by kernel_rfl) (by kernel_rfl) (by kernel_rfl) ?hQm14 (Or.inl ⟨?hwm14, ?hym14⟩) hHeld ?restm14
    case him14 => simp only [List.getElem?_toArray, List.getElem?_cons_succ, List.getElem?_cons_zero]; rfl
    case hQm14 => exact fun _ _ _ h => h
    case hwm14 => rfl
    case hym14 => (intro w9 hSw; obtain ⟨k0, k1, k2, k3, k4, k5, k6, k7, k8⟩ := L1; obtain ⟨p0, p1, p2, p3, p4, p5, p6, p7, p8⟩ := L2; replace k0 := (Ext.cell hSw hb).trans k0; replace k1 := (Ext.cell hSw hb).trans k1; replace k2 := (Ext.cell hSw hb).trans k2; replace k3 := (Ext.cell hSw hb).trans k3; replace k4 := (Ext.cell hSw hb).trans k4; replace k5 := (Ext.cell hSw hb).trans k5; replace k6 := (Ext.cell hSw hb).trans k6; replace k7 := (Ext.cell hSw hb).trans k7; replace k8 := (Ext.cell hSw hb).trans k8; replace p0 := (Ext.cell hSw hb).trans p0; replace p1 := (Ext.cell hSw hb).trans p1; replace p2 := (Ext.cell hSw hb).trans p2; replace p3 := (Ext.cell hSw hb).trans p3; replace p4 := (Ext.cell hSw hb).trans p4; replace p5 := (Ext.cell hSw hb).trans p5; replace p6 := (Ext.cell hSw hb).trans p6; replace p7 := (Ext.cell hSw hb).trans p7; replace p8 := (Ext.cell hSw hb).trans p8; go_simp; (try with_reducible rfl))
    case restm14 =>
    try simp only [Act.put, List.setIfInBounds_toArray, List.set_cons_zero, List.set_cons_succ]
    refine wpAnyH_take (i := 3) (oi := ?oim15) (v := ?vm15) ?him15 (by kernel_rfl) (by kernel_rfl) (by kernel_rfl) ?hQm15 (Or.inl ⟨?hwm15, ?hym15⟩) hHeld ?restm15
    case him15 => simp only [List.getElem?_toArray, List.getElem?_cons_succ, List.getElem?_cons_zero]; rfl
    case hQm15 => exact fun _ _ _ h => h
    case hwm15 => rfl
    case hym15 => (intro w9 hSw; obtain ⟨k0, k1, k2, k3, k4, k5, k6, k7, k8⟩ := L1; obtain ⟨p0, p1, p2, p3, p4, p5, p6, p7, p8⟩ := L2; replace k0 := (Ext.cell hSw hb).trans k0; replace k1 := (Ext.cell hSw hb).trans k1; replace k2 := (Ext.cell hSw hb).trans k2; replace k3 := (Ext.cell hSw hb).trans k3; replace k4 := (Ext.cell hSw hb).trans k4; replace k5 := (Ext.cell hSw hb).trans k5; replace k6 := (Ext.cell hSw hb).trans k6; replace k7 := (Ext.cell hSw hb).trans k7; replace k8 := (Ext.cell hSw hb).trans k8; replace p0 := (Ext.cell hSw hb).trans p0; replace p1 := (Ext.cell hSw hb).trans p1; replace p2 := (Ext.cell hSw hb).trans p2; replace p3 := (Ext.cell hSw hb).trans p3; replace p4 := (Ext.cell hSw hb).trans p4; replace p5 := (Ext.cell hSw hb).trans p5; replace p6 := (Ext.cell hSw hb).trans p6; replace p7 := (Ext.cell hSw hb).trans p7; replace p8 := (Ext.cell hSw hb).trans p8; go_simp; (try with_reducible rfl))
    case restm15 =>
    try simp only [Act.put, List.setIfInBounds_toArray, List.set_cons_zero, List.set_cons_succ]
    refine wpAnyH_take (i := 4) (oi := ?oim16) (v := ?vm16) ?him16 (by kernel_rfl) (by kernel_rfl) (by kernel_rfl) ?hQm16 (Or.inl ⟨?hwm16, ?hym16⟩) hHeld ?restm16
    case him16 => simp only [List.getElem?_toArray, List.getElem?_cons_succ, List.getElem?_cons_zero]; rfl
    case hQm16 => exact fun _ _ _ h => h
    case hwm16 => rfl
    case hym16 => (intro w9 hSw; obtain ⟨k0, k1, k2, k3, k4, k5, k6, k7, k8⟩ := L1; obtain ⟨p0, p1, p2, p3, p4, p5, p6, p7, p8⟩ := L2; replace k0 := (Ext.cell hSw hb).trans k0; replace k1 := (Ext.cell hSw hb).trans k1; replace k2 := (Ext.cell hSw hb).trans k2; replace k3 := (Ext.cell hSw hb).trans k3; replace k4 := (Ext.cell hSw hb).trans k4; replace k5 := (Ext.cell hSw hb).trans k5; replace k6 := (Ext.cell hSw hb).trans k6; replace k7 := (Ext.cell hSw hb).trans k7; replace k8 := (Ext.cell hSw hb).trans k8; replace p0 := (Ext.cell hSw hb).trans p0; replace p1 := (Ext.cell hSw hb).trans p1; replace p2 := (Ext.cell hSw hb).trans p2; replace p3 := (Ext.cell hSw hb).trans p3; replace p4 := (Ext.cell hSw hb).trans p4; replace p5 := (Ext.cell hSw hb).trans p5; replace p6 := (Ext.cell hSw hb).trans p6; replace p7 := (Ext.cell hSw hb).trans p7; replace p8 := (Ext.cell hSw hb).trans p8; go_simp; (try with_reducible rfl))
    case restm16 =>
    try simp only [Act.put, List.setIfInBounds_toArray, List.set_cons_zero, List.set_cons_succ]
    refine wpAnyH_take (i := 5) (oi := ?oim17) (v := ?vm17) ?him17 (by kernel_rfl) (by kernel_rfl) (by kernel_rfl) ?hQm17 (Or.inl ⟨?hwm17, ?hym17⟩) hHeld ?restm17
    case him17 => simp only [List.getElem?_toArray, List.getElem?_cons_succ, List.getElem?_cons_zero]; rfl
    case hQm17 => exact fun _ _ _ h => h
    case hwm17 => rfl
    case hym17 => (intro w9 hSw; obtain ⟨k0, k1, k2, k3, k4, k5, k6, k7, k8⟩ := L1; obtain ⟨p0, p1, p2, p3, p4, p5, p6, p7, p8⟩ := L2; replace k0 := (Ext.cell hSw hb).trans k0; replace k1 := (Ext.cell hSw hb).trans k1; replace k2 := (Ext.cell hSw hb).trans k2; replace k3 := (Ext.cell hSw hb).trans k3; replace k4 := (Ext.cell hSw hb).trans k4; replace k5 := (Ext.cell hSw hb).trans k5; replace k6 := (Ext.cell hSw hb).trans k6; replace k7 := (Ext.cell hSw hb).trans k7; replace k8 := (Ext.cell hSw hb).trans k8; replace p0 := (Ext.cell hSw hb).trans p0; replace p1 := (Ext.cell hSw hb).trans p1; replace p2 := (Ext.cell hSw hb).trans p2; replace p3 := (Ext.cell hSw hb).trans p3; replace p4 := (Ext.cell hSw hb).trans p4; replace p5 := (Ext.cell hSw hb).trans p5; replace p6 := (Ext.cell hSw hb).trans p6; replace p7 := (Ext.cell hSw hb).trans p7; replace p8 := (Ext.cell hSw hb).trans p8; go_simp; (try with_reducible rfl))
    case restm17 =>
    try simp only [Act.put, List.setIfInBounds_toArray, List.set_cons_zero, List.set_cons_succ]
    refine wpAnyH_take (i := 6) (oi := ?oim18) (v := ?vm18) ?him18 (by kernel_rfl) (by kernel_rfl) (by kernel_rfl) ?hQm18 (Or.inl ⟨?hwm18, ?hym18⟩) hHeld ?restm18
    case him18 => simp only [List.getElem?_toArray, List.getElem?_cons_succ, List.getElem?_cons_zero]; rfl
    case hQm18 => exact fun _ _ _ h => h
    case hwm18 => rfl
    case hym18 => (intro w9 hSw; obtain ⟨k0, k1, k2, k3, k4, k5, k6, k7, k8⟩ := L1; obtain ⟨p0, p1, p2, p3, p4, p5, p6, p7, p8⟩ := L2; replace k0 := (Ext.cell hSw hb).trans k0; replace k1 := (Ext.cell hSw hb).trans k1; replace k2 := (Ext.cell hSw hb).trans k2; replace k3 := (Ext.cell hSw hb).trans k3; replace k4 := (Ext.cell hSw hb).trans k4; replace k5 := (Ext.cell hSw hb).trans k5; replace k6 := (Ext.cell hSw hb).trans k6; replace k7 := (Ext.cell hSw hb).trans k7; replace k8 := (Ext.cell hSw hb).trans k8; replace p0 := (Ext.cell hSw hb).trans p0; replace p1 := (Ext.cell hSw hb).trans p1; replace p2 := (Ext.cell hSw hb).trans p2; replace p3 := (Ext.cell hSw hb).trans p3; replace p4 := (Ext.cell hSw hb).trans p4; replace p5 := (Ext.cell hSw hb).trans p5; replace p6 := (Ext.cell hSw hb).trans p6; replace p7 := (Ext.cell hSw hb).trans p7; replace p8 := (Ext.cell hSw hb).trans p8; go_simp; (try with_reducible rfl))
    case restm18 =>
    try simp only [Act.put, List.setIfInBounds_toArray, List.set_cons_zero, List.set_cons_succ]
    refine wpAnyH_take (i := 7) (oi := ?oim19) (v := ?vm19) ?him19 (by kernel_rfl) (by kernel_rfl) (by kernel_rfl) ?hQm19 (Or.inl ⟨?hwm19, ?hym19⟩) hHeld ?restm19
    case him19 => simp only [List.getElem?_toArray, List.getElem?_cons_succ, List.getElem?_cons_zero]; rfl
    case hQm19 => exact fun _ _ _ h => h
    case hwm19 => rfl
    case hym19 => (intro w9 hSw; obtain ⟨k0, k1, k2, k3, k4, k5, k6, k7, k8⟩ := L1; obtain ⟨p0, p1, p2, p3, p4, p5, p6, p7, p8⟩ := L2; replace k0 := (Ext.cell hSw hb).trans k0; replace k1 := (Ext.cell hSw hb).trans k1; replace k2 := (Ext.cell hSw hb).trans k2; replace k3 := (Ext.cell hSw hb).trans k3; replace k4 := (Ext.cell hSw hb).trans k4; replace k5 := (Ext.cell hSw hb).trans k5; replace k6 := (Ext.cell hSw hb).trans k6; replace k7 := (Ext.cell hSw hb).trans k7; replace k8 := (Ext.cell hSw hb).trans k8; replace p0 := (Ext.cell hSw hb).trans p0; replace p1 := (Ext.cell hSw hb).trans p1; replace p2 := (Ext.cell hSw hb).trans p2; replace p3 := (Ext.cell hSw hb).trans p3; replace p4 := (Ext.cell hSw hb).trans p4; replace p5 := (Ext.cell hSw hb).trans p5; replace p6 := (Ext.cell hSw hb).trans p6; replace p7 := (Ext.cell hSw hb).trans p7; replace p8 := (Ext.cell hSw hb).trans p8; go_simp; (try with_reducible rfl))
    case restm19 =>
    try simp only [Act.put, List.setIfInBounds_toArray, List.set_cons_zero, List.set_cons_succ]
    refine wpAnyH_take (i := 8) (oi := ?oim20) (v := ?vm20) ?him20 (by kernel_rfl) (by kernel_rfl) (by kernel_rfl) ?hQm20 (Or.inl ⟨?hwm20, ?hym20⟩) hHeld ?restm20
    case him20 => simp only [List.getElem?_toArray, List.getElem?_cons_succ, List.getElem?_cons_zero]; rfl
    case hQm20 => exact fun _ _ _ h => h
    case hwm20 => rfl
    case hym20 => (intro w9 hSw; obtain ⟨k0, k1, k2, k3, k4, k5, k6, k7, k8⟩ := L1; obtain ⟨p0, p1, p2, p3, p4, p5, p6, p7, p8⟩ := L2; replace k0 := (Ext.cell hSw hb).trans k0; replace k1 := (Ext.cell hSw hb).trans k1; replace k2 := (Ext.cell hSw hb).trans k2; replace k3 := (Ext.cell hSw hb).trans k3; replace k4 := (Ext.cell hSw hb).trans k4; replace k5 := (Ext.cell hSw hb).trans k5; replace k6 := (Ext.cell hSw hb).trans k6; replace k7 := (Ext.cell hSw hb).trans k7; replace k8 := (Ext.cell hSw hb).trans k8; replace p0 := (Ext.cell hSw hb).trans p0; replace p1 := (Ext.cell hSw hb).trans p1; replace p2 := (Ext.cell hSw hb).trans p2; replace p3 := (Ext.cell hSw hb).trans p3; replace p4 := (Ext.cell hSw hb).trans p4; replace p5 := (Ext.cell hSw hb).trans p5; replace p6 := (Ext.cell hSw hb).trans p6; replace p7 := (Ext.cell hSw hb).trans p7; replace p8 := (Ext.cell hSw hb).trans p8; go_simp; (try with_reducible rfl))
    case restm20 =>
    try simp only [Act.put, List.setIfInBounds_toArray, List.set_cons_zero, List.set_cons_succ]
    refine wpAnyH_ready (rs := [9]) (by kernel_rfl) (by simp) (AllReadyH.cons (o := ?om21) ?im21 (fun K hK => ?_) AllReadyH.nil)
    case im21 => simp only [List.getElem?_toArray, List.getElem?_cons_succ, List.getElem?_cons_zero]; rfl
    rw [if_pos (by rfl)]
    go_simp
    go_at_call 56
    (with_reducible refine (C).mono ?_)
    rintro e wz ⟨rfl, xz⟩
    refine hK.out _ _ (Ext.trans hHeld xz) (fun hHeld => ?_)
    clear hK K
    try simp only [List.setIfInBounds_toArray, List.set_cons_zero, List.set_cons_succ]
    refine wpAnyH_take (i := 10) (oi := ?oim22) (v := ?vm22) ?him22 (by kernel_rfl) (by kernel_rfl) (by kernel_rfl) ?hQm22 (Or.inl ⟨?hwm22, ?hym22⟩) hHeld ?restm22
    case him22 => simp only [List.getElem?_toArray, List.getElem?_cons_succ, List.getElem?_cons_zero]; rfl
    case hQm22 => exact fun _ _ _ h => h
    case hwm22 => rfl
    case hym22 => (intro w9 hSw; skip; go_simp; (try with_reducible rfl))
    case restm22 =>
    try simp only [Act.put, List.setIfInBounds_toArray, List.set_cons_zero, List.set_cons_succ]
    refine wpAnyH_done (by kernel_rfl) ?_ _
    go_wp2_with fail
    go_ret
    exact ⟨retB HV.out.symm, hHeld⟩
  ·have hd := hg.out
   have h1 : risesK ((l.drop k).map PtD.k) = true := by
    have : (l.drop k).length ≤ 1 := by rw [List.length_drop]; omega
    match l.drop k, this with
    | [], _ => rfl
    | [x], _ => rfl
   rw [h1] at hd
   have hk3 : (l.length : Int) ≤ (k : Int) + 1 := by omega
   replace hd := Lib.hid hd
   clear hk hg h1 hA hlt
   go_wp2_with fail
   go_ret
   exact ⟨retB hd.out, xr⟩
end Go.Proofs.YtjjnmefihdjglaaGreat
