import Derived.Test.YtjjnmefihdjglaaGreatSrA
import Derived.Deep.RegionHeld3
namespace Go.Proofs.YtjjnmefihdjglaaGreat
open Go.RowKit
set_option maxHeartbeats 16000000 in
set_option maxRecDepth 100000 in
theorem ins_p (S : PtD → Prop) (cf : PtD → PtD → Int) (L : Lt (fun x y => decide (cf x y < 0))) (b n c : Nat) (d : Nat → PtD) (w0 w : World) (hb : b < w0.heap.size) (hn : n ≤ 1000) (hX : ExtB b w0 w) (hR : RowE 9 40 PtD.cs b n d w) (hS : ∀ i, i < n → S (d i)) (C : ∀ W x y, ExtB b w0 W → S x → S y → Calls Tryz.prog 56 #[x.v, y.v] W fun e w' => e = .returned (.int .i64 (cf x y)) ∧ Ext W w') (a e : Nat) (hae : a ≤ e) (he : e ≤ n) :
  Calls Tryz.prog 125 #[.slice (some ⟨b, 0, none⟩) n c, .int .i64 a, .int .i64 e, .func (.func 56) #[] #[]] w fun z w' => z = .returned (.tuple #[]) ∧ ∃ d', Sw a e d d' ∧ Sd (fun x y => decide (cf x y < 0)) d' a e ∧ RowE 9 40 PtD.cs b n d' w' ∧ ExtB b w0 w' := by
 go_enter Tryz.func125, Tryz.ntmps125
 go_wp2_with fail
 go_loopw [8] (fun v wr => ∃ (i : Nat) (d1 : Nat → PtD), v = .int .i64 i ∧ a + 1 ≤ i ∧ (i ≤ e ∨ i = a + 1) ∧ Hid (Sw a e d d1 ∧ Sd (fun x y => decide (cf x y < 0)) d1 a i) ∧ RowE 9 40 PtD.cs b n d1 wr ∧ ExtB b w0 wr) (fun v _ => e - (intOf v).toNat)
 case atStart => exact ⟨a + 1, d, by first | rfl | exact vI (by omega) | exact vI (by rw [IntWalk.i64_in _ (by omega)]; omega), by omega, by omega, Lib.hid ⟨.refl, Sd.small _ _ _ (by omega)⟩, hR, hX⟩
 case round =>
  obtain ⟨i, d1, rfl, hi, hi2, H1, HR1, HX1⟩ := hrel
  clear hR hX
  by_cases hlt : i < e
  ·have ilt : (i : Int) < (e : Int) := by omega
   have ei1 : IntKind.i64.wrap ((i : Int) + 1) = (i : Int) + 1 := IntWalk.i64_in _ (by omega)
   go_wp2_with fail
   go_loopw [9] (fun v wr => ∃ (j : Nat) (d2 : Nat → PtD), v = .int .i64 j ∧ a ≤ j ∧ j ≤ i ∧ Hid (Sw a e d d2 ∧ InsI (fun x y => decide (cf x y < 0)) d2 a i j) ∧ RowE 9 40 PtD.cs b n d2 wr ∧ ExtB b w0 wr) (fun v _ => (intOf v).toNat)
   case atStart => exact ⟨i, d1, rfl, by omega, Nat.le_refl _, Lib.hid ⟨H1.out.1, InsI.start H1.out.2⟩, HR1, HX1⟩
   case round =>
    obtain ⟨j, d2, rfl, hj, hji, HQ, HR', HX'⟩ := hrel
    clear HR1 HX1 H1
    by_cases hja : a < j
    ·obtain ⟨k, rfl⟩ : ∃ k, j = k + 1 := ⟨j - 1, by omega⟩
     have hku : k + 1 < n := by omega
     have hk0 : k < n := by omega
     obtain ⟨p, hp⟩ : ∃ p, d2 (k + 1) = p := ⟨_, rfl⟩
     obtain ⟨q, hq⟩ : ∃ q, d2 k = q := ⟨_, rfl⟩
     have src : ∀ y, y < n → S (d2 y) := fun y hy => by
      by_cases h : a ≤ y ∧ y < e
      ·obtain ⟨z, _, z2, ez⟩ := HQ.out.1.src y h.1 h.2
       rw [ez]; exact hS z (by omega)
      ·rw [HQ.out.1.out y (by omega)]; exact hS y hy
     have Sp : S p := hp ▸ src _ hku
     have Sq : S q := hq ▸ src _ hk0
     have C1 := fun W h => C W p q h Sp Sq
     obtain ⟨cv, hcv⟩ : ∃ cv, cf p q = cv := ⟨_, rfl⟩
     rw [hcv] at C1
     unfold PtD.v ptV at C1
     have e1 : IntKind.i64.wrap (k : Int) = (k : Int) := IntWalk.i64_in _ (by omega)
     have e2 : (k : Int) + 1 < (n : Int) := by omega
     have e3 : (0 : Int) ≤ (k : Int) + 1 := by omega
     have e4 : (k : Int) < (n : Int) := by omega
     have e5 : (a : Int) < (k : Int) + 1 := by omega
     clear Sp Sq src
     by_cases h0 : cv < 0
     ·have hgo : Hid (Sw a e d (swF d2 (k + 1) k) ∧ InsI (fun x y => decide (cf x y < 0)) (swF d2 (k + 1) k) a i k) := Lib.hid ⟨HQ.out.1.swap _ _ (by omega) (by omega) (by omega) (by omega), InsI.step L HQ.out.2 (by omega) hji (by rw [hp, hq, hcv]; exact decide_eq_true h0)⟩
      clear HQ hcv
      go_wp2_with fail
      refine wp_region_held_drew (S := (fun W => RowE 9 40 PtD.cs b n d2 W ∧ ExtB b w0 W)) (by kernel_rfl) (⟨HR'.drew, HX'.drew⟩) (fun hHeld => ?_)
      refine wpAnyH_take (i := 0) (oi := ?oim1) (v := ?vm1) ?him1 (by kernel_rfl) (by kernel_rfl) (by kernel_rfl) ?hQm1 (Or.inl ⟨?hwm1, ?hym1⟩) hHeld ?restm1
      case him1 => simp only [List.getElem?_toArray, List.getElem?_cons_zero]; rfl
      case hQm1 => exact fun _ _ _ h => h
      case hwm1 => rfl
      case hym1 => (intro w9 hSw; skip; go_simp; (try with_reducible rfl))
      case restm1 =>
      try simp only [Act.put, List.setIfInBounds_toArray, List.set_cons_zero, List.set_cons_succ]
      refine wpAnyH_take (i := 1) (oi := ?oim2) (v := ?vm2) ?him2 (by kernel_rfl) (by kernel_rfl) (by kernel_rfl) ?hQm2 (Or.inl ⟨?hwm2, ?hym2⟩) hHeld ?restm2
      case him2 => simp only [List.getElem?_toArray, List.getElem?_cons_succ, List.getElem?_cons_zero]; rfl
      case hQm2 => exact fun _ _ _ h => h
      case hwm2 => rfl
      case hym2 => (intro w9 hSw; skip; go_simp; (try with_reducible rfl))
      case restm2 =>
      try simp only [Act.put, List.setIfInBounds_toArray, List.set_cons_zero, List.set_cons_succ]
      refine wpAnyH_take (i := 2) (oi := ?oim3) (v := ?vm3) ?him3 (by kernel_rfl) (by kernel_rfl) (by kernel_rfl) ?hQm3 (Or.inl ⟨?hwm3, ?hym3⟩) hHeld ?restm3
      case him3 => simp only [List.getElem?_toArray, List.getElem?_cons_succ, List.getElem?_cons_zero]; rfl
      case hQm3 => exact fun _ _ _ h => h
      case hwm3 => rfl
      case hym3 => (intro w9 hSw; skip; go_simp; (try with_reducible rfl))
      case restm3 =>
      try simp only [Act.put, List.setIfInBounds_toArray, List.set_cons_zero, List.set_cons_succ]
      refine wpAnyH_take (i := 3) (oi := ?oim4) (v := ?vm4) ?him4 (by kernel_rfl) (by kernel_rfl) (by kernel_rfl) ?hQm4 (Or.inl ⟨?hwm4, ?hym4⟩) hHeld ?restm4
      case him4 => simp only [List.getElem?_toArray, List.getElem?_cons_succ, List.getElem?_cons_zero]; rfl
      case hQm4 => exact fun _ _ _ h => h
      case hwm4 => rfl
      case hym4 => (intro w9 hSw; skip; go_simp; (try with_reducible rfl))
      case restm4 =>
      try simp only [Act.put, List.setIfInBounds_toArray, List.set_cons_zero, List.set_cons_succ]
      refine wpAnyH_take (i := 4) (oi := ?oim5) (v := ?vm5) ?him5 (by kernel_rfl) (by kernel_rfl) (by kernel_rfl) ?hQm5 (Or.inl ⟨?hwm5, ?hym5⟩) hHeld ?restm5
      case him5 => simp only [List.getElem?_toArray, List.getElem?_cons_succ, List.getElem?_cons_zero]; rfl
      case hQm5 => exact fun _ _ _ h => h
      case hwm5 => rfl
      case hym5 => (intro w9 hSw; skip; go_simp; (try with_reducible rfl))
      case restm5 =>
      try simp only [Act.put, List.setIfInBounds_toArray, List.set_cons_zero, List.set_cons_succ]
      refine wpAnyH_take (i := 5) (oi := ?oim6) (v := ?vm6) ?him6 (by kernel_rfl) (by kernel_rfl) (by kernel_rfl) ?hQm6 (Or.inl ⟨?hwm6, ?hym6⟩) hHeld ?restm6
      case him6 => simp only [List.getElem?_toArray, List.getElem?_cons_succ, List.getElem?_cons_zero]; rfl
      case hQm6 => exact fun _ _ _ h => h
      case hwm6 => rfl
      case hym6 => (intro w9 hSw; skip; go_simp; (try with_reducible rfl))
      case restm6 =>
      try simp only [Act.put, List.setIfInBounds_toArray, List.set_cons_zero, List.set_cons_succ]
      refine wpAnyH_take (i := 6) (oi := ?oim7) (v := ?vm7) ?him7 (by kernel_rfl) (by kernel_rfl) (by kernel_rfl) ?hQm7 (Or.inl ⟨?hwm7, ?hym7⟩) hHeld ?restm7
      case him7 => simp only [List.getElem?_toArray, List.getElem?_cons_succ, List.getElem?_cons_zero]; rfl
      case hQm7 => exact fun _ _ _ h => h
      case hwm7 => rfl
      case hym7 => (intro w9 hSw; skip; go_simp; (try with_reducible rfl))
      case restm7 =>
      try simp only [Act.put, List.setIfInBounds_toArray, List.set_cons_zero, List.set_cons_succ]
      refine wpAnyH_take (i := 7) (oi := ?oim8) (v := ?vm8) ?him8 (by kernel_rfl) (by kernel_rfl) (by kernel_rfl) ?hQm8 (Or.inl ⟨?hwm8, ?hym8⟩) hHeld ?restm8
      case him8 => simp only [List.getElem?_toArray, List.getElem?_cons_succ, List.getElem?_cons_zero]; rfl
      case hQm8 => exact fun _ _ _ h => h
      case hwm8 => rfl
      case hym8 => (intro w9 hSw; skip; go_simp; (try with_reducible rfl))
      case restm8 =>
      try simp only [Act.put, List.setIfInBounds_toArray, List.set_cons_zero, List.set_cons_succ]
      refine wpAnyH_take (i := 8) (oi := ?oim9) (v := ?vm9) ?him9 (by kernel_rfl) (by kernel_rfl) (by kernel_rfl) ?hQm9 (Or.inl ⟨?hwm9, ?hym9⟩) hHeld ?restm9
      case him9 => simp only [List.getElem?_toArray, List.getElem?_cons_succ, List.getElem?_cons_zero]; rfl
      case hQm9 => exact fun _ _ _ h => h
      case hwm9 => rfl
      case hym9 => (intro w9 hSw; have p0 : w9.cell? ⟨b, (k + 1) * 9, none⟩ = some (.slice p.a p.l.length p.c) := hSw.1.cell (k + 1) 0 _ hku (by decide) (by rw [hp]; rfl); have p1 : w9.cell? ⟨b, (k + 1) * 9 + 1, none⟩ = some (.int .i64 p.r) := hSw.1.cell (k + 1) 1 _ hku (by decide) (by rw [hp]; rfl); have p2 : w9.cell? ⟨b, (k + 1) * 9 + 2, none⟩ = some (.bool p.f) := hSw.1.cell (k + 1) 2 _ hku (by decide) (by rw [hp]; rfl); have p3 : w9.cell? ⟨b, (k + 1) * 9 + 3, none⟩ = some (.int .i64 p.M) := hSw.1.cell (k + 1) 3 _ hku (by decide) (by rw [hp]; rfl); have p4 : w9.cell? ⟨b, (k + 1) * 9 + 4, none⟩ = some (.int .i64 p.S) := hSw.1.cell (k + 1) 4 _ hku (by decide) (by rw [hp]; rfl); have p5 : w9.cell? ⟨b, (k + 1) * 9 + 5, none⟩ = some (.int .i64 p.m) := hSw.1.cell (k + 1) 5 _ hku (by decide) (by rw [hp]; rfl); have p6 : w9.cell? ⟨b, (k + 1) * 9 + 6, none⟩ = some (.int .i64 p.s) := hSw.1.cell (k + 1) 6 _ hku (by decide) (by rw [hp]; rfl); have p7 : w9.cell? ⟨b, (k + 1) * 9 + 7, none⟩ = some (.bool p.t) := hSw.1.cell (k + 1) 7 _ hku (by decide) (by rw [hp]; rfl); have p8 : w9.cell? ⟨b, (k + 1) * 9 + 8, none⟩ = some (.int .i64 p.T) := hSw.1.cell (k + 1) 8 _ hku (by decide) (by rw [hp]; rfl); go_simp; (try with_reducible rfl))
      case restm9 =>
      try simp only [Act.put, List.setIfInBounds_toArray, List.set_cons_zero, List.set_cons_succ]
      refine wpAnyH_take (i := 9) (oi := ?oim10) (v := ?vm10) ?him10 (by kernel_rfl) (by kernel_rfl) (by kernel_rfl) ?hQm10 (Or.inl ⟨?hwm10, ?hym10⟩) hHeld ?restm10
      case him10 => simp only [List.getElem?_toArray, List.getElem?_cons_succ, List.getElem?_cons_zero]; rfl
      case hQm10 => exact fun _ _ _ h => h
      case hwm10 => rfl
      case hym10 => (intro w9 hSw; skip; go_simp; (try with_reducible rfl))
      case restm10 =>
      try simp only [Act.put, List.setIfInBounds_toArray, List.set_cons_zero, List.set_cons_succ]
      refine wpAnyH_take (i := 10) (oi := ?oim11) (v := ?vm11) ?him11 (by kernel_rfl) (by kernel_rfl) (by kernel_rfl) ?hQm11 (Or.inl ⟨?hwm11, ?hym11⟩) hHeld ?restm11
      case him11 => simp only [List.getElem?_toArray, List.getElem?_cons_succ, List.getElem?_cons_zero]; rfl
      case hQm11 => exact fun _ _ _ h => h
      case hwm11 => rfl
      case hym11 => (intro w9 hSw; skip; go_simp; (try with_reducible rfl))
      case restm11 =>
      try simp only [Act.put, List.setIfInBounds_toArray, List.set_cons_zero, List.set_cons_succ]
      refine wpAnyH_take (i := 11) (oi := ?oim12) (v := ?vm12) ?him12 (by kernel_rfl) (by kernel_rfl) (by kernel_rfl) ?hQm12 (Or.inl ⟨?hwm12, ?hym12⟩) hHeld ?restm12
      case him12 => simp only [List.getElem?_toArray, List.getElem?_cons_succ, List.getElem?_cons_zero]; rfl
      case hQm12 => exact fun _ _ _ h => h
      case hwm12 => rfl
      case hym12 => (intro w9 hSw; skip; go_simp; (try with_reducible rfl))
      case restm12 =>
      try simp only [Act.put, List.setIfInBounds_toArray, List.set_cons_zero, List.set_cons_succ]
      refine wpAnyH_take (i := 12) (oi := ?oim13) (v := ?vm13) ?him13 (by kernel_rfl) (by kernel_rfl) (by kernel_rfl) ?hQm13 (Or.inl ⟨?hwm13, ?hym13⟩) hHeld ?restm13
      case him13 => simp only [List.getElem?_toArray, List.getElem?_cons_succ, List.getElem?_cons_zero]; rfl
      case hQm13 => exact fun _ _ _ h => h
      case hwm13 => rfl
      case hym13 => (intro w9 hSw; skip; go_simp; (try with_reducible rfl))
      case restm13 =>
      try simp only [Act.put, List.setIfInBounds_toArray, List.set_cons_zero, List.set_cons_succ]
      refine wpAnyH_take (i := 13) (oi := ?oim14) (v := ?vm14) ?him14 (by kernel_rfl) (by kernel_rfl) (by kernel_rfl) ?hQm14 (Or.inl ⟨?hwm14, ?hym14⟩) hHeld ?restm14
      case him14 => simp only [List.getElem?_toArray, List.getElem?_cons_succ, List.getElem?_cons_zero]; rfl
      case hQm14 => exact fun _ _ _ h => h
      case hwm14 => rfl
      case hym14 => (intro w9 hSw; have q0 : w9.cell? ⟨b, k * 9, none⟩ = some (.slice q.a q.l.length q.c) := hSw.1.cell k 0 _ hk0 (by decide) (by rw [hq]; rfl); have q1 : w9.cell? ⟨b, k * 9 + 1, none⟩ = some (.int .i64 q.r) := hSw.1.cell k 1 _ hk0 (by decide) (by rw [hq]; rfl); have q2 : w9.cell? ⟨b, k * 9 + 2, none⟩ = some (.bool q.f) := hSw.1.cell k 2 _ hk0 (by decide) (by rw [hq]; rfl); have q3 : w9.cell? ⟨b, k * 9 + 3, none⟩ = some (.int .i64 q.M) := hSw.1.cell k 3 _ hk0 (by decide) (by rw [hq]; rfl); have q4 : w9.cell? ⟨b, k * 9 + 4, none⟩ = some (.int .i64 q.S) := hSw.1.cell k 4 _ hk0 (by decide) (by rw [hq]; rfl); have q5 : w9.cell? ⟨b, k * 9 + 5, none⟩ = some (.int .i64 q.m) := hSw.1.cell k 5 _ hk0 (by decide) (by rw [hq]; rfl); have q6 : w9.cell? ⟨b, k * 9 + 6, none⟩ = some (.int .i64 q.s) := hSw.1.cell k 6 _ hk0 (by decide) (by rw [hq]; rfl); have q7 : w9.cell? ⟨b, k * 9 + 7, none⟩ = some (.bool q.t) := hSw.1.cell k 7 _ hk0 (by decide) (by rw [hq]; rfl); have q8 : w9.cell? ⟨b, k * 9 + 8, none⟩ = some (.int .i64 q.T) := hSw.1.cell k 8 _ hk0 (by decide) (by rw [hq]; rfl); go_simp; (try with_reducible rfl))
      case restm14 =>
      try simp only [Act.put, List.setIfInBounds_toArray, List.set_cons_zero, List.set_cons_succ]
      refine wpAnyH_ready (rs := [14]) (by kernel_rfl) (by simp) (AllReadyH.cons (o := ?om15) ?im15 (fun K hK => ?_) AllReadyH.nil)
      case im15 => simp only [List.getElem?_toArray, List.getElem?_cons_succ, List.getElem?_cons_zero]; rfl
      rw [if_pos (by rfl)]
      go_simp
      go_at_call 56
      (with_reducible refine (C1 _ hHeld.2).mono ?_)
      rintro e wz ⟨rfl, xz⟩
      refine hK.out _ _ (⟨hHeld.1.ext xz, hHeld.2.ext xz hb⟩) (fun hHeld => ?_)
      clear hK K
      try simp only [List.setIfInBounds_toArray, List.set_cons_zero, List.set_cons_succ]
      refine wpAnyH_take (i := 15) (oi := ?oim16) (v := ?vm16) ?him16 (by kernel_rfl) (by kernel_rfl) (by kernel_rfl) ?hQm16 (Or.inl ⟨?hwm16, ?hym16⟩) hHeld ?restm16
      case him16 => simp only [List.getElem?_toArray, List.getElem?_cons_succ, List.getElem?_cons_zero]; rfl
      case hQm16 => exact fun _ _ _ h => h
      case hwm16 => rfl
      case hym16 => (intro w9 hSw; skip; go_simp; (try with_reducible rfl))
      case restm16 =>
      try simp only [Act.put, List.setIfInBounds_toArray, List.set_cons_zero, List.set_cons_succ]
      refine wpAnyH_take (i := 16) (oi := ?oim17) (v := ?vm17) ?him17 (by kernel_rfl) (by kernel_rfl) (by kernel_rfl) ?hQm17 (Or.inl ⟨?hwm17, ?hym17⟩) hHeld ?restm17
      case him17 => simp only [List.getElem?_toArray, List.getElem?_cons_succ, List.getElem?_cons_zero]; rfl
      case hQm17 => exact fun _ _ _ h => h
      case hwm17 => rfl
      case hym17 => (intro w9 hSw; skip; go_simp; (try with_reducible rfl))
      case restm17 =>
      try simp only [Act.put, List.setIfInBounds_toArray, List.set_cons_zero, List.set_cons_succ]
      refine wpAnyH_done (by kernel_rfl) ?_ _
      go_wp2_with fail
      obtain ⟨HR2, HX2⟩ := hHeld
      have p0 : wz.cell? ⟨b, (k + 1) * 9, none⟩ = some (.slice p.a p.l.length p.c) := HR2.cell (k + 1) 0 _ hku (by decide) (by rw [hp]; rfl)
      have fp0 : wz.frozen? ⟨b, (k + 1) * 9, none⟩ = false := HR2.free _
      have p1 : wz.cell? ⟨b, (k + 1) * 9 + 1, none⟩ = some (.int .i64 p.r) := HR2.cell (k + 1) 1 _ hku (by decide) (by rw [hp]; rfl)
      have fp1 : wz.frozen? ⟨b, (k + 1) * 9 + 1, none⟩ = false := HR2.free _
      have p2 : wz.cell? ⟨b, (k + 1) * 9 + 2, none⟩ = some (.bool p.f) := HR2.cell (k + 1) 2 _ hku (by decide) (by rw [hp]; rfl)
      have fp2 : wz.frozen? ⟨b, (k + 1) * 9 + 2, none⟩ = false := HR2.free _
      have p3 : wz.cell? ⟨b, (k + 1) * 9 + 3, none⟩ = some (.int .i64 p.M) := HR2.cell (k + 1) 3 _ hku (by decide) (by rw [hp]; rfl)
      have fp3 : wz.frozen? ⟨b, (k + 1) * 9 + 3, none⟩ = false := HR2.free _
      have p4 : wz.cell? ⟨b, (k + 1) * 9 + 4, none⟩ = some (.int .i64 p.S) := HR2.cell (k + 1) 4 _ hku (by decide) (by rw [hp]; rfl)
      have fp4 : wz.frozen? ⟨b, (k + 1) * 9 + 4, none⟩ = false := HR2.free _
      have p5 : wz.cell? ⟨b, (k + 1) * 9 + 5, none⟩ = some (.int .i64 p.m) := HR2.cell (k + 1) 5 _ hku (by decide) (by rw [hp]; rfl)
      have fp5 : wz.frozen? ⟨b, (k + 1) * 9 + 5, none⟩ = false := HR2.free _
      have p6 : wz.cell? ⟨b, (k + 1) * 9 + 6, none⟩ = some (.int .i64 p.s) := HR2.cell (k + 1) 6 _ hku (by decide) (by rw [hp]; rfl)
      have fp6 : wz.frozen? ⟨b, (k + 1) * 9 + 6, none⟩ = false := HR2.free _
      have p7 : wz.cell? ⟨b, (k + 1) * 9 + 7, none⟩ = some (.bool p.t) := HR2.cell (k + 1) 7 _ hku (by decide) (by rw [hp]; rfl)
      have fp7 : wz.frozen? ⟨b, (k + 1) * 9 + 7, none⟩ = false := HR2.free _
      have p8 : wz.cell? ⟨b, (k + 1) * 9 + 8, none⟩ = some (.int .i64 p.T) := HR2.cell (k + 1) 8 _ hku (by decide) (by rw [hp]; rfl)
      have fp8 : wz.frozen? ⟨b, (k + 1) * 9 + 8, none⟩ = false := HR2.free _
      have q0 : wz.cell? ⟨b, k * 9, none⟩ = some (.slice q.a q.l.length q.c) := HR2.cell k 0 _ hk0 (by decide) (by rw [hq]; rfl)
      have fq0 : wz.frozen? ⟨b, k * 9, none⟩ = false := HR2.free _
      have q1 : wz.cell? ⟨b, k * 9 + 1, none⟩ = some (.int .i64 q.r) := HR2.cell k 1 _ hk0 (by decide) (by rw [hq]; rfl)
      have fq1 : wz.frozen? ⟨b, k * 9 + 1, none⟩ = false := HR2.free _
      have q2 : wz.cell? ⟨b, k * 9 + 2, none⟩ = some (.bool q.f) := HR2.cell k 2 _ hk0 (by decide) (by rw [hq]; rfl)
      have fq2 : wz.frozen? ⟨b, k * 9 + 2, none⟩ = false := HR2.free _
      have q3 : wz.cell? ⟨b, k * 9 + 3, none⟩ = some (.int .i64 q.M) := HR2.cell k 3 _ hk0 (by decide) (by rw [hq]; rfl)
      have fq3 : wz.frozen? ⟨b, k * 9 + 3, none⟩ = false := HR2.free _
      have q4 : wz.cell? ⟨b, k * 9 + 4, none⟩ = some (.int .i64 q.S) := HR2.cell k 4 _ hk0 (by decide) (by rw [hq]; rfl)
      have fq4 : wz.frozen? ⟨b, k * 9 + 4, none⟩ = false := HR2.free _
      have q5 : wz.cell? ⟨b, k * 9 + 5, none⟩ = some (.int .i64 q.m) := HR2.cell k 5 _ hk0 (by decide) (by rw [hq]; rfl)
      have fq5 : wz.frozen? ⟨b, k * 9 + 5, none⟩ = false := HR2.free _
      have q6 : wz.cell? ⟨b, k * 9 + 6, none⟩ = some (.int .i64 q.s) := HR2.cell k 6 _ hk0 (by decide) (by rw [hq]; rfl)
      have fq6 : wz.frozen? ⟨b, k * 9 + 6, none⟩ = false := HR2.free _
      have q7 : wz.cell? ⟨b, k * 9 + 7, none⟩ = some (.bool q.t) := HR2.cell k 7 _ hk0 (by decide) (by rw [hq]; rfl)
      have fq7 : wz.frozen? ⟨b, k * 9 + 7, none⟩ = false := HR2.free _
      have q8 : wz.cell? ⟨b, k * 9 + 8, none⟩ = some (.int .i64 q.T) := HR2.cell k 8 _ hk0 (by decide) (by rw [hq]; rfl)
      have fq8 : wz.frozen? ⟨b, k * 9 + 8, none⟩ = false := HR2.free _
      have H2 := RowE.swap (cs := PtD.cs) (fun _ => rfl) HR2 (k + 1) k hku hk0
      have X2 := HX2.swap ((k + 1) * 9) (k * 9) (PtD.cs (d2 k)) (PtD.cs (d2 (k + 1)))
      rw [hp, hq] at H2 X2
      replace H2 := Lib.hid H2
      replace X2 := Lib.hid X2
      clear HR2 HX2
      clear hp hq C1 HR' HX'
      go_wp2_with fail
      go_region
      go_wp2_with fail
      go_roundw
      case rel => exact ⟨k, _, rfl, by omega, by omega, hgo, H2.out, X2.out⟩
      case measure => simp only [intOf]; omega
     ·have hgo : Hid (Sw a e d d2 ∧ Sd (fun x y => decide (cf x y < 0)) d2 a (i + 1)) := Lib.hid ⟨HQ.out.1, InsI.stop L HQ.out.2 (Or.inr ⟨hja, by rw [show k + 1 - 1 = k from rfl, hp, hq, hcv]; exact decide_eq_false h0⟩)⟩
      clear HQ hcv
      go_wp2_with fail
      refine wp_region_held_drew (S := (fun W => RowE 9 40 PtD.cs b n d2 W ∧ ExtB b w0 W)) (by kernel_rfl) (⟨HR'.drew, HX'.drew⟩) (fun hHeld => ?_)
      refine wpAnyH_take (i := 0) (oi := ?oim18) (v := ?vm18) ?him18 (by kernel_rfl) (by kernel_rfl) (by kernel_rfl) ?hQm18 (Or.inl ⟨?hwm18, ?hym18⟩) hHeld ?restm18
      case him18 => simp only [List.getElem?_toArray, List.getElem?_cons_zero]; rfl
      case hQm18 => exact fun _ _ _ h => h
      case hwm18 => rfl
      case hym18 => (intro w9 hSw; skip; go_simp; (try with_reducible rfl))
      case restm18 =>
      try simp only [Act.put, List.setIfInBounds_toArray, List.set_cons_zero, List.set_cons_succ]
      refine wpAnyH_take (i := 1) (oi := ?oim19) (v := ?vm19) ?him19 (by kernel_rfl) (by kernel_rfl) (by kernel_rfl) ?hQm19 (Or.inl ⟨?hwm19, ?hym19⟩) hHeld ?restm19
      case him19 => simp only [List.getElem?_toArray, List.getElem?_cons_succ, List.getElem?_cons_zero]; rfl
      case hQm19 => exact fun _ _ _ h => h
      case hwm19 => rfl
      case hym19 => (intro w9 hSw; skip; go_simp; (try with_reducible rfl))
      case restm19 =>
      try simp only [Act.put, List.setIfInBounds_toArray, List.set_cons_zero, List.set_cons_succ]
      refine wpAnyH_take (i := 2) (oi := ?oim20) (v := ?vm20) ?him20 (by kernel_rfl) (by kernel_rfl) (by kernel_rfl) ?hQm20 (Or.inl ⟨?hwm20, ?hym20⟩) hHeld ?restm20
      case him20 => simp only [List.getElem?_toArray, List.getElem?_cons_succ, List.getElem?_cons_zero]; rfl
      case hQm20 => exact fun _ _ _ h => h
      case hwm20 => rfl
      case hym20 => (intro w9 hSw; skip; go_simp; (try with_reducible rfl))
      case restm20 =>
      try simp only [Act.put, List.setIfInBounds_toArray, List.set_cons_zero, List.set_cons_succ]
      refine wpAnyH_take (i := 3) (oi := ?oim21) (v := ?vm21) ?him21 (by kernel_rfl) (by kernel_rfl) (by kernel_rfl) ?hQm21 (Or.inl ⟨?hwm21, ?hym21⟩) hHeld ?restm21
      case him21 => simp only [List.getElem?_toArray, List.getElem?_cons_succ, List.getElem?_cons_zero]; rfl
      case hQm21 => exact fun _ _ _ h => h
      case hwm21 => rfl
      case hym21 => (intro w9 hSw; skip; go_simp; (try with_reducible rfl))
      case restm21 =>
      try simp only [Act.put, List.setIfInBounds_toArray, List.set_cons_zero, List.set_cons_succ]
      refine wpAnyH_take (i := 4) (oi := ?oim22) (v := ?vm22) ?him22 (by kernel_rfl) (by kernel_rfl) (by kernel_rfl) ?hQm22 (Or.inl ⟨?hwm22, ?hym22⟩) hHeld ?restm22
      case him22 => simp only [List.getElem?_toArray, List.getElem?_cons_succ, List.getElem?_cons_zero]; rfl
      case hQm22 => exact fun _ _ _ h => h
      case hwm22 => rfl
      case hym22 => (intro w9 hSw; skip; go_simp; (try with_reducible rfl))
      case restm22 =>
      try simp only [Act.put, List.setIfInBounds_toArray, List.set_cons_zero, List.set_cons_succ]
      refine wpAnyH_take (i := 5) (oi := ?oim23) (v := ?vm23) ?him23 (by kernel_rfl) (by kernel_rfl) (by kernel_rfl) ?hQm23 (Or.inl ⟨?hwm23, ?hym23⟩) hHeld ?restm23
      case him23 => simp only [List.getElem?_toArray, List.getElem?_cons_succ, List.getElem?_cons_zero]; rfl
      case hQm23 => exact fun _ _ _ h => h
      case hwm23 => rfl
      case hym23 => (intro w9 hSw; skip; go_simp; (try with_reducible rfl))
      case restm23 =>
      try simp only [Act.put, List.setIfInBounds_toArray, List.set_cons_zero, List.set_cons_succ]
      refine wpAnyH_take (i := 6) (oi := ?oim24) (v := ?vm24) ?him24 (by kernel_rfl) (by kernel_rfl) (by kernel_rfl) ?hQm24 (Or.inl ⟨?hwm24, ?hym24⟩) hHeld ?restm24
      case him24 => simp only [List.getElem?_toArray, List.getElem?_cons_succ, List.getElem?_cons_zero]; rfl
      case hQm24 => exact fun _ _ _ h => h
      case hwm24 => rfl
      case hym24 => (intro w9 hSw; skip; go_simp; (try with_reducible rfl))
      case restm24 =>
      try simp only [Act.put, List.setIfInBounds_toArray, List.set_cons_zero, List.set_cons_succ]
      refine wpAnyH_take (i := 7) (oi := ?oim25) (v := ?vm25) ?him25 (by kernel_rfl) (by kernel_rfl) (by kernel_rfl) ?hQm25 (Or.inl ⟨?hwm25, ?hym25⟩) hHeld ?restm25
      case him25 => simp only [List.getElem?_toArray, List.getElem?_cons_succ, List.getElem?_cons_zero]; rfl
      case hQm25 => exact fun _ _ _ h => h
      case hwm25 => rfl
      case hym25 => (intro w9 hSw; skip; go_simp; (try with_reducible rfl))
      case restm25 =>
      try simp only [Act.put, List.setIfInBounds_toArray, List.set_cons_zero, List.set_cons_succ]
      refine wpAnyH_take (i := 8) (oi := ?oim26) (v := ?vm26) ?him26 (by kernel_rfl) (by kernel_rfl) (by kernel_rfl) ?hQm26 (Or.inl ⟨?hwm26, ?hym26⟩) hHeld ?restm26
      case him26 => simp only [List.getElem?_toArray, List.getElem?_cons_succ, List.getElem?_cons_zero]; rfl
      case hQm26 => exact fun _ _ _ h => h
      case hwm26 => rfl
      case hym26 => (intro w9 hSw; have p0 : w9.cell? ⟨b, (k + 1) * 9, none⟩ = some (.slice p.a p.l.length p.c) := hSw.1.cell (k + 1) 0 _ hku (by decide) (by rw [hp]; rfl); have p1 : w9.cell? ⟨b, (k + 1) * 9 + 1, none⟩ = some (.int .i64 p.r) := hSw.1.cell (k + 1) 1 _ hku (by decide) (by rw [hp]; rfl); have p2 : w9.cell? ⟨b, (k + 1) * 9 + 2, none⟩ = some (.bool p.f) := hSw.1.cell (k + 1) 2 _ hku (by decide) (by rw [hp]; rfl); have p3 : w9.cell? ⟨b, (k + 1) * 9 + 3, none⟩ = some (.int .i64 p.M) := hSw.1.cell (k + 1) 3 _ hku (by decide) (by rw [hp]; rfl); have p4 : w9.cell? ⟨b, (k + 1) * 9 + 4, none⟩ = some (.int .i64 p.S) := hSw.1.cell (k + 1) 4 _ hku (by decide) (by rw [hp]; rfl); have p5 : w9.cell? ⟨b, (k + 1) * 9 + 5, none⟩ = some (.int .i64 p.m) := hSw.1.cell (k + 1) 5 _ hku (by decide) (by rw [hp]; rfl); have p6 : w9.cell? ⟨b, (k + 1) * 9 + 6, none⟩ = some (.int .i64 p.s) := hSw.1.cell (k + 1) 6 _ hku (by decide) (by rw [hp]; rfl); have p7 : w9.cell? ⟨b, (k + 1) * 9 + 7, none⟩ = some (.bool p.t) := hSw.1.cell (k + 1) 7 _ hku (by decide) (by rw [hp]; rfl); have p8 : w9.cell? ⟨b, (k + 1) * 9 + 8, none⟩ = some (.int .i64 p.T) := hSw.1.cell (k + 1) 8 _ hku (by decide) (by rw [hp]; rfl); go_simp; (try with_reducible rfl))
      case restm26 =>
      try simp only [Act.put, List.setIfInBounds_toArray, List.set_cons_zero, List.set_cons_succ]
      refine wpAnyH_take (i := 9) (oi := ?oim27) (v := ?vm27) ?him27 (by kernel_rfl) (by kernel_rfl) (by kernel_rfl) ?hQm27 (Or.inl ⟨?hwm27, ?hym27⟩) hHeld ?restm27
      case him27 => simp only [List.getElem?_toArray, List.getElem?_cons_succ, List.getElem?_cons_zero]; rfl
      case hQm27 => exact fun _ _ _ h => h
      case hwm27 => rfl
      case hym27 => (intro w9 hSw; skip; go_simp; (try with_reducible rfl))
      case restm27 =>
      try simp only [Act.put, List.setIfInBounds_toArray, List.set_cons_zero, List.set_cons_succ]
      refine wpAnyH_take (i := 10) (oi := ?oim28) (v := ?vm28) ?him28 (by kernel_rfl) (by kernel_rfl) (by kernel_rfl) ?hQm28 (Or.inl ⟨?hwm28, ?hym28⟩) hHeld ?restm28
      case him28 => simp only [List.getElem?_toArray, List.getElem?_cons_succ, List.getElem?_cons_zero]; rfl
      case hQm28 => exact fun _ _ _ h => h
      case hwm28 => rfl
      case hym28 => (intro w9 hSw; skip; go_simp; (try with_reducible rfl))
      case restm28 =>
      try simp only [Act.put, List.setIfInBounds_toArray, List.set_cons_zero, List.set_cons_succ]
      refine wpAnyH_take (i := 11) (oi := ?oim29) (v := ?vm29) ?him29 (by kernel_rfl) (by kernel_rfl) (by kernel_rfl) ?hQm29 (Or.inl ⟨?hwm29, ?hym29⟩) hHeld ?restm29
      case him29 => simp only [List.getElem?_toArray, List.getElem?_cons_succ, List.getElem?_cons_zero]; rfl
      case hQm29 => exact fun _ _ _ h => h
      case hwm29 => rfl
      case hym29 => (intro w9 hSw; skip; go_simp; (try with_reducible rfl))
      case restm29 =>
      try simp only [Act.put, List.setIfInBounds_toArray, List.set_cons_zero, List.set_cons_succ]
      refine wpAnyH_take (i := 12) (oi := ?oim30) (v := ?vm30) ?him30 (by kernel_rfl) (by kernel_rfl) (by kernel_rfl) ?hQm30 (Or.inl ⟨?hwm30, ?hym30⟩) hHeld ?restm30
      case him30 => simp only [List.getElem?_toArray, List.getElem?_cons_succ, List.getElem?_cons_zero]; rfl
      case hQm30 => exact fun _ _ _ h => h
      case hwm30 => rfl
      case hym30 => (intro w9 hSw; skip; go_simp; (try with_reducible rfl))
      case restm30 =>
      try simp only [Act.put, List.setIfInBounds_toArray, List.set_cons_zero, List.set_cons_succ]
      refine wpAnyH_take (i := 13) (oi := ?oim31) (v := ?vm31) ?him31 (by kernel_rfl) (by kernel_rfl) (by kernel_rfl) ?hQm31 (Or.inl ⟨?hwm31, ?hym31⟩) hHeld ?restm31
      case him31 => simp only [List.getElem?_toArray, List.getElem?_cons_succ, List.getElem?_cons_zero]; rfl
      case hQm31 => exact fun _ _ _ h => h
      case hwm31 => rfl
      case hym31 => (intro w9 hSw; have q0 : w9.cell? ⟨b, k * 9, none⟩ = some (.slice q.a q.l.length q.c) := hSw.1.cell k 0 _ hk0 (by decide) (by rw [hq]; rfl); have q1 : w9.cell? ⟨b, k * 9 + 1, none⟩ = some (.int .i64 q.r) := hSw.1.cell k 1 _ hk0 (by decide) (by rw [hq]; rfl); have q2 : w9.cell? ⟨b, k * 9 + 2, none⟩ = some (.bool q.f) := hSw.1.cell k 2 _ hk0 (by decide) (by rw [hq]; rfl); have q3 : w9.cell? ⟨b, k * 9 + 3, none⟩ = some (.int .i64 q.M) := hSw.1.cell k 3 _ hk0 (by decide) (by rw [hq]; rfl); have q4 : w9.cell? ⟨b, k * 9 + 4, none⟩ = some (.int .i64 q.S) := hSw.1.cell k 4 _ hk0 (by decide) (by rw [hq]; rfl); have q5 : w9.cell? ⟨b, k * 9 + 5, none⟩ = some (.int .i64 q.m) := hSw.1.cell k 5 _ hk0 (by decide) (by rw [hq]; rfl); have q6 : w9.cell? ⟨b, k * 9 + 6, none⟩ = some (.int .i64 q.s) := hSw.1.cell k 6 _ hk0 (by decide) (by rw [hq]; rfl); have q7 : w9.cell? ⟨b, k * 9 + 7, none⟩ = some (.bool q.t) := hSw.1.cell k 7 _ hk0 (by decide) (by rw [hq]; rfl); have q8 : w9.cell? ⟨b, k * 9 + 8, none⟩ = some (.int .i64 q.T) := hSw.1.cell k 8 _ hk0 (by decide) (by rw [hq]; rfl); go_simp; (try with_reducible rfl))
      case restm31 =>
      try simp only [Act.put, List.setIfInBounds_toArray, List.set_cons_zero, List.set_cons_succ]
      refine wpAnyH_ready (rs := [14]) (by kernel_rfl) (by simp) (AllReadyH.cons (o := ?om32) ?im32 (fun K hK => ?_) AllReadyH.nil)
      case im32 => simp only [List.getElem?_toArray, List.getElem?_cons_succ, List.getElem?_cons_zero]; rfl
      rw [if_pos (by rfl)]
      go_simp
      go_at_call 56
      (with_reducible refine (C1 _ hHeld.2).mono ?_)
      rintro e wz ⟨rfl, xz⟩
      refine hK.out _ _ (⟨hHeld.1.ext xz, hHeld.2.ext xz hb⟩) (fun hHeld => ?_)
      clear hK K
      try simp only [List.setIfInBounds_toArray, List.set_cons_zero, List.set_cons_succ]
      refine wpAnyH_take (i := 15) (oi := ?oim33) (v := ?vm33) ?him33 (by kernel_rfl) (by kernel_rfl) (by kernel_rfl) ?hQm33 (Or.inl ⟨?hwm33, ?hym33⟩) hHeld ?restm33
      case him33 => simp only [List.getElem?_toArray, List.getElem?_cons_succ, List.getElem?_cons_zero]; rfl
      case hQm33 => exact fun _ _ _ h => h
      case hwm33 => rfl
      case hym33 => (intro w9 hSw; skip; go_simp; (try with_reducible rfl))
      case restm33 =>
      try simp only [Act.put, List.setIfInBounds_toArray, List.set_cons_zero, List.set_cons_succ]
      refine wpAnyH_take (i := 16) (oi := ?oim34) (v := ?vm34) ?him34 (by kernel_rfl) (by kernel_rfl) (by kernel_rfl) ?hQm34 (Or.inl ⟨?hwm34, ?hym34⟩) hHeld ?restm34
      case him34 => simp only [List.getElem?_toArray, List.getElem?_cons_succ, List.getElem?_cons_zero]; rfl
      case hQm34 => exact fun _ _ _ h => h
      case hwm34 => rfl
      case hym34 => (intro w9 hSw; skip; go_simp; (try with_reducible rfl))
      case restm34 =>
      try simp only [Act.put, List.setIfInBounds_toArray, List.set_cons_zero, List.set_cons_succ]
      refine wpAnyH_done (by kernel_rfl) ?_ _
      clear hp hq C1 HR' HX'
      go_wp2_with fail
      go_roundw
      case rel => exact ⟨i + 1, d2, rfl, by omega, by omega, hgo, hHeld.1, hHeld.2⟩
      case measure => simp only [intOf]; omega
    ·have hgo : Hid (Sw a e d d2 ∧ Sd (fun x y => decide (cf x y < 0)) d2 a (i + 1)) := Lib.hid ⟨HQ.out.1, InsI.stop L HQ.out.2 (Or.inl (by omega))⟩
     have e5 : ¬ (a : Int) < (j : Int) := by omega
     clear HQ
     go_wp2_with fail
     refine wp_region_held_drew (S := (fun W => RowE 9 40 PtD.cs b n d2 W ∧ ExtB b w0 W)) (by kernel_rfl) (⟨HR'.drew, HX'.drew⟩) (fun hHeld => ?_)
     refine wpAnyH_take (i := 0) (oi := ?oim35) (v := ?vm35) ?him35 (by kernel_rfl) (by kernel_rfl) (by kernel_rfl) ?hQm35 (Or.inl ⟨?hwm35, ?hym35⟩) hHeld ?restm35
     case him35 => simp only [List.getElem?_toArray, List.getElem?_cons_zero]; rfl
     case hQm35 => exact fun _ _ _ h => h
     case hwm35 => rfl
     case hym35 => (intro w9 hSw; skip; go_simp; (try with_reducible rfl))
     case restm35 =>
     try simp only [Act.put, List.setIfInBounds_toArray, List.set_cons_zero, List.set_cons_succ]
     refine wpAnyH_take (i := 1) (oi := ?oim36) (v := ?vm36) ?him36 (by kernel_rfl) (by kernel_rfl) (by kernel_rfl) ?hQm36 (Or.inl ⟨?hwm36, ?hym36⟩) hHeld ?restm36
     case him36 => simp only [List.getElem?_toArray, List.getElem?_cons_succ, List.getElem?_cons_zero]; rfl
     case hQm36 => exact fun _ _ _ h => h
     case hwm36 => rfl
     case hym36 => (intro w9 hSw; skip; go_simp; (try with_reducible rfl))
     case restm36 =>
     try simp only [Act.put, List.setIfInBounds_toArray, List.set_cons_zero, List.set_cons_succ]
     refine wpAnyH_take (i := 2) (oi := ?oim37) (v := ?vm37) ?him37 (by kernel_rfl) (by kernel_rfl) (by kernel_rfl) ?hQm37 (Or.inl ⟨?hwm37, ?hym37⟩) hHeld ?restm37
     case him37 => simp only [List.getElem?_toArray, List.getElem?_cons_succ, List.getElem?_cons_zero]; rfl
     case hQm37 => exact fun _ _ _ h => h
     case hwm37 => rfl
     case hym37 => (intro w9 hSw; skip; go_simp; (try with_reducible rfl))
     case restm37 =>
     try simp only [Act.put, List.setIfInBounds_toArray, List.set_cons_zero, List.set_cons_succ]
     refine wpAnyH_take (i := 3) (oi := ?oim38) (v := ?vm38) ?him38 (by kernel_rfl) (by kernel_rfl) (by kernel_rfl) ?hQm38 (Or.inl ⟨?hwm38, ?hym38⟩) hHeld ?restm38
     case him38 => simp only [List.getElem?_toArray, List.getElem?_cons_succ, List.getElem?_cons_zero]; rfl
     case hQm38 => exact fun _ _ _ h => h
     case hwm38 => rfl
     case hym38 => (intro w9 hSw; skip; go_simp; (try with_reducible rfl))
     case restm38 =>
     try simp only [Act.put, List.setIfInBounds_toArray, List.set_cons_zero, List.set_cons_succ]
     refine wpAnyH_take (i := 4) (oi := ?oim39) (v := undef) ?him39 (by kernel_rfl) (by kernel_rfl) (by kernel_rfl) ?hQm39 (Or.inr ⟨?hwm39, rfl⟩) hHeld ?restm39
     case him39 => simp only [List.getElem?_toArray, List.getElem?_cons_succ, List.getElem?_cons_zero]; rfl
     case hQm39 => exact fun _ _ _ h => h
     case hwm39 => rfl
     case restm39 =>
     try simp only [Act.put, List.setIfInBounds_toArray, List.set_cons_zero, List.set_cons_succ]
     refine wpAnyH_take (i := 5) (oi := ?oim40) (v := undef) ?him40 (by kernel_rfl) (by kernel_rfl) (by kernel_rfl) ?hQm40 (Or.inr ⟨?hwm40, rfl⟩) hHeld ?restm40
     case him40 => simp only [List.getElem?_toArray, List.getElem?_cons_succ, List.getElem?_cons_zero]; rfl
     case hQm40 => exact fun _ _ _ h => h
     case hwm40 => rfl
     case restm40 =>
     try simp only [Act.put, List.setIfInBounds_toArray, List.set_cons_zero, List.set_cons_succ]
     refine wpAnyH_take (i := 6) (oi := ?oim41) (v := undef) ?him41 (by kernel_rfl) (by kernel_rfl) (by kernel_rfl) ?hQm41 (Or.inr ⟨?hwm41, rfl⟩) hHeld ?restm41
     case him41 => simp only [List.getElem?_toArray, List.getElem?_cons_succ, List.getElem?_cons_zero]; rfl
     case hQm41 => exact fun _ _ _ h => h
     case hwm41 => rfl
     case restm41 =>
     try simp only [Act.put, List.setIfInBounds_toArray, List.set_cons_zero, List.set_cons_succ]
     refine wpAnyH_take (i := 7) (oi := ?oim42) (v := undef) ?him42 (by kernel_rfl) (by kernel_rfl) (by kernel_rfl) ?hQm42 (Or.inr ⟨?hwm42, rfl⟩) hHeld ?restm42
     case him42 => simp only [List.getElem?_toArray, List.getElem?_cons_succ, List.getElem?_cons_zero]; rfl
     case hQm42 => exact fun _ _ _ h => h
     case hwm42 => rfl
     case restm42 =>
     try simp only [Act.put, List.setIfInBounds_toArray, List.set_cons_zero, List.set_cons_succ]
     refine wpAnyH_take (i := 8) (oi := ?oim43) (v := undef) ?him43 (by kernel_rfl) (by kernel_rfl) (by kernel_rfl) ?hQm43 (Or.inr ⟨?hwm43, rfl⟩) hHeld ?restm43
     case him43 => simp only [List.getElem?_toArray, List.getElem?_cons_succ, List.getElem?_cons_zero]; rfl
     case hQm43 => exact fun _ _ _ h => h
     case hwm43 => rfl
     case restm43 =>
     try simp only [Act.put, List.setIfInBounds_toArray, List.set_cons_zero, List.set_cons_succ]
     refine wpAnyH_take (i := 9) (oi := ?oim44) (v := undef) ?him44 (by kernel_rfl) (by kernel_rfl) (by kernel_rfl) ?hQm44 (Or.inr ⟨?hwm44, rfl⟩) hHeld ?restm44
     case him44 => simp only [List.getElem?_toArray, List.getElem?_cons_succ, List.getElem?_cons_zero]; rfl
     case hQm44 => exact fun _ _ _ h => h
     case hwm44 => rfl
     case restm44 =>
     try simp only [Act.put, List.setIfInBounds_toArray, List.set_cons_zero, List.set_cons_succ]
     refine wpAnyH_take (i := 10) (oi := ?oim45) (v := undef) ?him45 (by kernel_rfl) (by kernel_rfl) (by kernel_rfl) ?hQm45 (Or.inr ⟨?hwm45, rfl⟩) hHeld ?restm45
     case him45 => simp only [List.getElem?_toArray, List.getElem?_cons_succ, List.getElem?_cons_zero]; rfl
     case hQm45 => exact fun _ _ _ h => h
     case hwm45 => rfl
     case restm45 =>
     try simp only [Act.put, List.setIfInBounds_toArray, List.set_cons_zero, List.set_cons_succ]
     refine wpAnyH_take (i := 11) (oi := ?oim46) (v := undef) ?him46 (by kernel_rfl) (by kernel_rfl) (by kernel_rfl) ?hQm46 (Or.inr ⟨?hwm46, rfl⟩) hHeld ?restm46
     case him46 => simp only [List.getElem?_toArray, List.getElem?_cons_succ, List.getElem?_cons_zero]; rfl
     case hQm46 => exact fun _ _ _ h => h
     case hwm46 => rfl
     case restm46 =>
     try simp only [Act.put, List.setIfInBounds_toArray, List.set_cons_zero, List.set_cons_succ]
     refine wpAnyH_take (i := 12) (oi := ?oim47) (v := undef) ?him47 (by kernel_rfl) (by kernel_rfl) (by kernel_rfl) ?hQm47 (Or.inr ⟨?hwm47, rfl⟩) hHeld ?restm47
     case him47 => simp only [List.getElem?_toArray, List.getElem?_cons_succ, List.getElem?_cons_zero]; rfl
     case hQm47 => exact fun _ _ _ h => h
     case hwm47 => rfl
     case restm47 =>
     try simp only [Act.put, List.setIfInBounds_toArray, List.set_cons_zero, List.set_cons_succ]
     refine wpAnyH_take (i := 13) (oi := ?oim48) (v := undef) ?him48 (by kernel_rfl) (by kernel_rfl) (by kernel_rfl) ?hQm48 (Or.inr ⟨?hwm48, rfl⟩) hHeld ?restm48
     case him48 => simp only [List.getElem?_toArray, List.getElem?_cons_succ, List.getElem?_cons_zero]; rfl
     case hQm48 => exact fun _ _ _ h => h
     case hwm48 => rfl
     case restm48 =>
     try simp only [Act.put, List.setIfInBounds_toArray, List.set_cons_zero, List.set_cons_succ]
     refine wpAnyH_take (i := 14) (oi := ?oim49) (v := undef) ?him49 (by kernel_rfl) (by kernel_rfl) (by kernel_rfl) ?hQm49 (Or.inr ⟨?hwm49, rfl⟩) hHeld ?restm49
     case him49 => simp only [List.getElem?_toArray, List.getElem?_cons_succ, List.getElem?_cons_zero]; rfl
     case hQm49 => exact fun _ _ _ h => h
     case hwm49 => rfl
     case restm49 =>
     try simp only [Act.put, List.setIfInBounds_toArray, List.set_cons_zero, List.set_cons_succ]
     refine wpAnyH_take (i := 15) (oi := ?oim50) (v := undef) ?him50 (by kernel_rfl) (by kernel_rfl) (by kernel_rfl) ?hQm50 (Or.inr ⟨?hwm50, rfl⟩) hHeld ?restm50
     case him50 => simp only [List.getElem?_toArray, List.getElem?_cons_succ, List.getElem?_cons_zero]; rfl
     case hQm50 => exact fun _ _ _ h => h
     case hwm50 => rfl
     case restm50 =>
     try simp only [Act.put, List.setIfInBounds_toArray, List.set_cons_zero, List.set_cons_succ]
     refine wpAnyH_take (i := 16) (oi := ?oim51) (v := ?vm51) ?him51 (by kernel_rfl) (by kernel_rfl) (by kernel_rfl) ?hQm51 (Or.inl ⟨?hwm51, ?hym51⟩) hHeld ?restm51
     case him51 => simp only [List.getElem?_toArray, List.getElem?_cons_succ, List.getElem?_cons_zero]; rfl
     case hQm51 => exact fun _ _ _ h => h
     case hwm51 => rfl
     case hym51 => (intro w9 hSw; skip; go_simp; (try with_reducible rfl))
     case restm51 =>
     try simp only [Act.put, List.setIfInBounds_toArray, List.set_cons_zero, List.set_cons_succ]
     refine wpAnyH_done (by kernel_rfl) ?_ _
     clear HR' HX'
     go_wp2_with fail
     go_roundw
     case rel => exact ⟨i + 1, d2, rfl, by omega, by omega, hgo, hHeld.1, hHeld.2⟩
     case measure => simp only [intOf]; omega
  ·have hgo : Hid (Sw a e d d1 ∧ Sd (fun x y => decide (cf x y < 0)) d1 a e) := Lib.hid ⟨H1.out.1, H1.out.2.sub (Nat.le_refl _) (by omega)⟩
   have ilt : ¬ (i : Int) < (e : Int) := by omega
   clear H1
   go_wp2_with fail
   go_end0
   exact ⟨rfl, d1, hgo.out.1, hgo.out.2, HR1, HX1⟩
end Go.Proofs.YtjjnmefihdjglaaGreat
