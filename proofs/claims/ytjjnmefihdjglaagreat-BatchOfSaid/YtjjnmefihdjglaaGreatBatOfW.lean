import Derived.Test.YtjjnmefihdjglaaGreatBatG
import Derived.Test.YtjjnmefihdjglaaGreatBatRow
namespace Go.Proofs.YtjjnmefihdjglaaGreat
open Go.RowKit
set_option maxHeartbeats 16000000 in
set_option maxRecDepth 100000 in
theorem BatchOf_main (tn : ByteArray) (A : Option Addr) (c : Nat) (l : List FamD) (tt : ByteArray) (w : World) (g : BatGot w tn A c l) (htt : tt.size ≤ 9223372036854775807) :
  Calls Tryz.prog 6 #[.agg #[.string tn, .slice A l.length c], .string tt] w fun e w' => e = .returned (.bool true) ∧ Ext w w' := by
 obtain ⟨W, hW⟩ : ∃ W, w.alloc (.cells #[.string tn, .slice A l.length c] 27) = W := ⟨_, rfl⟩
 have z1 : Ext w W := by rw [← hW]; exact (Ext.refl w).alloc _
 have gB : BatIn w.heap.size tn (.slice A l.length c) W := by rw [← hW]; exact heap_last _ _
 replace hW := Lib.hid hW
 obtain ⟨B, hB⟩ : ∃ B, w.heap.size = B := ⟨_, rfl⟩
 rw [hB] at gB
 have hA := g.fams.ext z1
 have hlm := g.len
 have hfl : ∀ f ∈ l, (f.ps.length : Int) ≤ 9223372036854775807 := fun f hf => (g.got f hf).ext0
 clear g
 go_enter Tryz.func6, Tryz.ntmps6
 go_wp2_with fail
 rw [hW.out]
 (with_reducible refine (known10_any _).mono ?_)
 rintro e w1 ⟨rfl, y1⟩
 replace gB := gB.ext y1
 replace hA := hA.ext y1
 replace z1 := z1.trans y1
 clear hW hB y1
 obtain ⟨b0, b1⟩ := gB.cells
 go_wp2_with fail
 (with_reducible refine (wide_any tn A c l w1 hlm hA hfl).mono ?_)
 rintro e w2 ⟨⟨sb, rfl, hsb⟩, y1⟩
 replace gB := gB.ext y1
 replace hA := hA.ext y1
 replace z1 := z1.trans y1
 clear b0 b1 y1 hfl
 obtain ⟨b0, b1⟩ := gB.cells
 cases sb
 rotate_left
 ·clear hsb
  go_wp2_with fail
  go_ret
  exact ⟨rfl, z1⟩
 obtain ⟨h40, h100, hnar⟩ := hsb rfl
 clear hsb
 have hs : ∀ f ∈ l, f.y.Sm := fun f hf => (hnar f hf).sm
 by_cases h60 : 60 < tt.size
 ·have h60' : (60 : Int) < (tt.size : Int) := by omega
  go_wp2_with fail
  go_ret
  exact ⟨rfl, z1⟩
 have h60' : ¬ (60 : Int) < (tt.size : Int) := by omega
 have RC := rCheck_any tn A c l w2 (by omega) (by omega) hA hs
 obtain ⟨r, hr⟩ : ∃ r, checkB tn (l.map FamD.y) = r := ⟨_, rfl⟩
 rw [hr] at RC
 go_wp2_with fail
 (with_reducible refine RC.mono ?_)
 rintro e w3 ⟨rfl, y1⟩
 replace gB := gB.ext y1
 replace hA := hA.ext y1
 replace z1 := z1.trans y1
 clear b0 b1 y1 RC hnar
 obtain ⟨b0, b1⟩ := gB.cells
 by_cases hr0 : r = 0
 rotate_left
 ·have hrb : (r != 0) = true := by simpa using hr0
  go_wp2_with fail
  go_ret
  exact ⟨rfl, z1⟩
 subst hr0
 have GB := GoodB.of hr
 clear hr
 have OF := batOf_any tt A c l w3 (by omega) (by omega) hA hs
 go_wp2_with fail
 (with_reducible refine OF.mono ?_)
 rintro e w4 ⟨ht, y1⟩
 clear OF
 replace gB := gB.ext y1
 replace hA := hA.ext y1
 replace z1 := z1.trans y1
 clear b0 b1 y1
 obtain ⟨T, hT⟩ : ∃ T, tenB tt = T := ⟨_, rfl⟩
 have hck := GB.check tt
 have hsrt := GB.sort (List.Perm.refl _)
 rw [hT] at hck
 have SP := fun W (x : Ext w4 W) => Stamp_any tn tt A c l W (by omega) (hA.ext x) hs
 have TE := fun W => Tenant_any tt W htt
 rw [hT] at TE
 have hsm2 : ∀ L2 : List FamD, L2.map FamD.y = l.map FamD.y → ∀ f ∈ L2, f.y.Sm := fun L2 e f hf => by
  have h1 : f.y ∈ L2.map FamD.y := List.mem_map_of_mem hf
  rw [e] at h1
  obtain ⟨q, hq, e2⟩ := List.mem_map.1 h1
  rw [← e2]
  exact hs q hq
 have hlen2 : ∀ L2 : List FamD, L2.map FamD.y = l.map FamD.y → L2.length = l.length := fun L2 e => by
  have := congrArg List.length e
  simpa using this
 replace hsm2 := Lib.hid hsm2
 replace hlen2 := Lib.hid hlen2
 cases T
 ·rw [if_neg (by decide)] at hck
  obtain rfl := ht.bad (fun N hN => by rw [hsrt] at hN; injection hN with hN; rw [← hN, hck]; decide)
  clear ht hsrt GB
  have xa := (Ext.refl w4).alloc (.cells #[.string ⟨#[]⟩, .slice none 0 0] 27)
  have gX : BatIn w4.heap.size ⟨#[]⟩ (.slice none 0 0) (w4.alloc (.cells #[.string ⟨#[]⟩, .slice none 0 0] 27)) := heap_last _ _
  replace gB := gB.ext xa
  obtain ⟨b0, b1⟩ := gB.cells
  go_wp2_with fail
  (with_reducible refine (SP _ xa).mono ?_)
  rintro e w5 ⟨⟨v, L2, rfl, hy2, hO2⟩, y2⟩
  obtain ⟨a5, c5, rfl, hF2⟩ := hO2.fams
  have xb := (Ext.refl w5).alloc (.cells #[.string tt, .slice a5 L2.length c5] 27)
  have gZ : BatIn w5.heap.size tt (.slice a5 L2.length c5) (w5.alloc (.cells #[.string tt, .slice a5 L2.length c5] 27)) := heap_last _ _
  have CK := fun W (x : Ext w5 W) => Check_any tt a5 c5 L2 W (by rw [hlen2.out L2 hy2]; omega) (by omega) (hF2.ext x) (hsm2.out L2 hy2)
  rw [hy2, hck] at CK
  replace gX := gX.ext (y2.trans xb)
  clear b0 b1 hy2 hO2 hF2 SP hck hsm2 hlen2
  obtain ⟨d0, d1⟩ := gZ.cells
  go_wp2_with fail
  (with_reducible refine (TE _).mono ?_)
  rintro e w6 ⟨rfl, y3⟩
  replace gZ := gZ.ext y3
  replace gX := gX.ext y3
  clear d0 d1
  obtain ⟨d0, d1⟩ := gZ.cells
  go_wp2_with fail
  (with_reducible refine (CK _ (xb.trans y3)).mono ?_)
  rintro e w7 ⟨rfl, y4⟩
  replace gX := gX.ext y4
  clear d0 d1
  obtain ⟨d0, d1⟩ := gX.cells
  go_wp2_with fail
  go_ret
  exact ⟨rfl, ((((z1.trans xa).trans y2).trans xb).trans y3).trans y4⟩
 rw [if_pos rfl] at hck
 obtain ⟨a1, c1, L1, hL1, rfl, hF1, _⟩ := ht.good hsrt hck
 clear ht hsrt GB
 have xa := (Ext.refl w4).alloc (.cells #[.string tt, .slice a1 L1.length c1] 27)
 have gX : BatIn w4.heap.size tt (.slice a1 L1.length c1) (w4.alloc (.cells #[.string tt, .slice a1 L1.length c1] 27)) := heap_last _ _
 replace gB := gB.ext xa
 obtain ⟨b0, b1⟩ := gB.cells
 go_wp2_with fail
 (with_reducible refine (SP _ xa).mono ?_)
 rintro e w5 ⟨⟨v, L2, rfl, hy2, hO2⟩, y2⟩
 obtain ⟨a5, c5, rfl, hF2⟩ := hO2.fams
 have xb := (Ext.refl w5).alloc (.cells #[.string tt, .slice a5 L2.length c5] 27)
 have gZ : BatIn w5.heap.size tt (.slice a5 L2.length c5) (w5.alloc (.cells #[.string tt, .slice a5 L2.length c5] 27)) := heap_last _ _
 have hl1 := hlen2.out L1 hL1
 have hl2 := hlen2.out L2 hy2
 have CK := fun W (x : Ext w5 W) => Check_any tt a5 c5 L2 W (by omega) (by omega) (hF2.ext x) (hsm2.out L2 hy2)
 rw [hy2, hck] at CK
 replace gX := gX.ext (y2.trans xb)
 replace gB := gB.ext (y2.trans xb)
 clear b0 b1 hO2 SP hck
 obtain ⟨d0, d1⟩ := gZ.cells
 replace hl1 := Lib.hid hl1
 replace hl2 := Lib.hid hl2
 replace hy2 := Lib.hid hy2
 replace hL1 := Lib.hid hL1
 go_wp2_with fail
 (with_reducible refine (TE _).mono ?_)
 rintro e w6 ⟨rfl, y3⟩
 replace gZ := gZ.ext y3
 replace gX := gX.ext y3
 replace gB := gB.ext y3
 clear d0 d1
 obtain ⟨d0, d1⟩ := gZ.cells
 go_wp2_with fail
 (with_reducible refine (CK _ (xb.trans y3)).mono ?_)
 rintro e w9 ⟨rfl, y4⟩
 replace gX := gX.ext y4
 replace gB := gB.ext y4
 replace gZ := gZ.ext y4
 replace hF2 := hF2.ext ((xb.trans y3).trans y4)
 replace hF1 := hF1.ext ((((xa.trans y2).trans xb).trans y3).trans y4)
 replace hA := hA.ext ((((xa.trans y2).trans xb).trans y3).trans y4)
 have z2 := ((((z1.trans xa).trans y2).trans xb).trans y3).trans y4
 clear d0 d1 CK TE xa y2 xb y3 y4 z1
 have hbX := gX.lt
 have hbZ := gZ.lt
 have hbB := gB.lt
 obtain ⟨b0, b1⟩ := gB.cells
 obtain ⟨x0, x1⟩ := gX.cells
 obtain ⟨z0, z1⟩ := gZ.cells
 have S1 := fun W (x : Ext w9 W) => batSame_any tt a1 c1 L1 tt a5 c5 L2 W (by rw [hl1.out]; omega) (by rw [hl2.out]; omega) (hF1.ext x) (hF2.ext x) (hsm2.out L1 hL1.out) (hsm2.out L2 hy2.out)
 rw [hL1.out, hy2.out, sameFs_refl, decide_eq_true rfl] at S1
 have S3 := fun W (x : Ext w9 W) => batSame_any tt a1 c1 L1 tn A c l W (by rw [hl1.out]; omega) (by omega) (hF1.ext x) (hA.ext x) (hsm2.out L1 hL1.out) hs
 rw [hL1.out, sameFs_refl, Bool.and_true] at S3
 have P1 := fun W (x : Ext w9 W) => Stamp_any tt tn a1 c1 L1 W (by rw [hl1.out]; omega) (hF1.ext x) (hsm2.out L1 hL1.out)
 rw [hL1.out] at P1
 have e3 := eq_is tt tn
 obtain ⟨D, hD⟩ : ∃ D, decide (tt = tn) = D := ⟨_, rfl⟩
 rw [hD] at S3 e3
 clear gB gX gZ hF1 hF2 hD hT
 go_wp2_with fail
 refine wp_region_held_drew (S := Ext w9) (by kernel_rfl) ((Ext.refl w9).drew) (fun hHeld => ?_)
 refine wpAnyH_take (i := 0) (oi := ?oim1) (v := ?vm1) ?him1 (by kernel_rfl) (by kernel_rfl) (by kernel_rfl) ?hQm1 (Or.inl ⟨?hwm1, ?hym1⟩) hHeld ?restm1
 case him1 => simp only [List.getElem?_toArray, List.getElem?_cons_zero]; rfl
 case hQm1 => exact fun _ _ _ h => h
 case hwm1 => rfl
 case hym1 => (intro w9 hSw; replace b0 := (Ext.cell hSw hbB).trans b0; replace b1 := (Ext.cell hSw hbB).trans b1; replace x0 := (Ext.cell hSw hbX).trans x0; replace x1 := (Ext.cell hSw hbX).trans x1; replace z0 := (Ext.cell hSw hbZ).trans z0; replace z1 := (Ext.cell hSw hbZ).trans z1; go_simp; (try with_reducible rfl))
 case restm1 =>
 try simp only [Act.put, List.setIfInBounds_toArray, List.set_cons_zero, List.set_cons_succ]
 refine wpAnyH_take (i := 1) (oi := ?oim2) (v := ?vm2) ?him2 (by kernel_rfl) (by kernel_rfl) (by kernel_rfl) ?hQm2 (Or.inl ⟨?hwm2, ?hym2⟩) hHeld ?restm2
 case him2 => simp only [List.getElem?_toArray, List.getElem?_cons_succ, List.getElem?_cons_zero]; rfl
 case hQm2 => exact fun _ _ _ h => h
 case hwm2 => rfl
 case hym2 => (intro w9 hSw; replace b0 := (Ext.cell hSw hbB).trans b0; replace b1 := (Ext.cell hSw hbB).trans b1; replace x0 := (Ext.cell hSw hbX).trans x0; replace x1 := (Ext.cell hSw hbX).trans x1; replace z0 := (Ext.cell hSw hbZ).trans z0; replace z1 := (Ext.cell hSw hbZ).trans z1; go_simp; (try with_reducible rfl))
 case restm2 =>
 try simp only [Act.put, List.setIfInBounds_toArray, List.set_cons_zero, List.set_cons_succ]
 refine wpAnyH_ready (rs := [2]) (by kernel_rfl) (by simp) (AllReadyH.cons (o := ?om3) ?im3 (fun K hK => ?_) AllReadyH.nil)
 case im3 => simp only [List.getElem?_toArray, List.getElem?_cons_succ, List.getElem?_cons_zero]; rfl
 rw [if_pos (by rfl)]
 go_simp
 go_at_call 20
 (with_reducible refine (S1 _ hHeld).mono ?_)
 rintro e wz ⟨rfl, xz⟩
 refine hK.out _ _ (hHeld.trans xz) (fun hHeld => ?_)
 clear hK K
 try simp only [List.setIfInBounds_toArray, List.set_cons_zero, List.set_cons_succ]
 refine wpAnyH_take (i := 3) (oi := ?oim4) (v := ?vm4) ?him4 (by kernel_rfl) (by kernel_rfl) (by kernel_rfl) ?hQm4 (Or.inl ⟨?hwm4, ?hym4⟩) hHeld ?restm4
 case him4 => simp only [List.getElem?_toArray, List.getElem?_cons_succ, List.getElem?_cons_zero]; rfl
 case hQm4 => exact fun _ _ _ h => h
 case hwm4 => rfl
 case hym4 => (intro w9 hSw; skip; go_simp; (try with_reducible rfl))
 case restm4 =>
 try simp only [Act.put, List.setIfInBounds_toArray, List.set_cons_zero, List.set_cons_succ]
 refine wpAnyH_take (i := 4) (oi := ?oim5) (v := ?vm5) ?him5 (by kernel_rfl) (by kernel_rfl) (by kernel_rfl) ?hQm5 (Or.inl ⟨?hwm5, ?hym5⟩) hHeld ?restm5
 case him5 => simp only [List.getElem?_toArray, List.getElem?_cons_succ, List.getElem?_cons_zero]; rfl
 case hQm5 => exact fun _ _ _ h => h
 case hwm5 => rfl
 case hym5 => (intro w9 hSw; replace b0 := (Ext.cell hSw hbB).trans b0; replace b1 := (Ext.cell hSw hbB).trans b1; replace x0 := (Ext.cell hSw hbX).trans x0; replace x1 := (Ext.cell hSw hbX).trans x1; replace z0 := (Ext.cell hSw hbZ).trans z0; replace z1 := (Ext.cell hSw hbZ).trans z1; go_simp; (try with_reducible rfl))
 case restm5 =>
 try simp only [Act.put, List.setIfInBounds_toArray, List.set_cons_zero, List.set_cons_succ]
 refine wpAnyH_take (i := 5) (oi := ?oim6) (v := ?vm6) ?him6 (by kernel_rfl) (by kernel_rfl) (by kernel_rfl) ?hQm6 (Or.inl ⟨?hwm6, ?hym6⟩) hHeld ?restm6
 case him6 => simp only [List.getElem?_toArray, List.getElem?_cons_succ, List.getElem?_cons_zero]; rfl
 case hQm6 => exact fun _ _ _ h => h
 case hwm6 => rfl
 case hym6 => (intro w9 hSw; replace b0 := (Ext.cell hSw hbB).trans b0; replace b1 := (Ext.cell hSw hbB).trans b1; replace x0 := (Ext.cell hSw hbX).trans x0; replace x1 := (Ext.cell hSw hbX).trans x1; replace z0 := (Ext.cell hSw hbZ).trans z0; replace z1 := (Ext.cell hSw hbZ).trans z1; go_simp; (try with_reducible rfl))
 case restm6 =>
 try simp only [Act.put, List.setIfInBounds_toArray, List.set_cons_zero, List.set_cons_succ]
 refine wpAnyH_take (i := 6) (oi := ?oim7) (v := ?vm7) ?him7 (by kernel_rfl) (by kernel_rfl) (by kernel_rfl) ?hQm7 (Or.inl ⟨?hwm7, ?hym7⟩) hHeld ?restm7
 case him7 => simp only [List.getElem?_toArray, List.getElem?_cons_succ, List.getElem?_cons_zero]; rfl
 case hQm7 => exact fun _ _ _ h => h
 case hwm7 => rfl
 case hym7 => (intro w9 hSw; replace b0 := (Ext.cell hSw hbB).trans b0; replace b1 := (Ext.cell hSw hbB).trans b1; replace x0 := (Ext.cell hSw hbX).trans x0; replace x1 := (Ext.cell hSw hbX).trans x1; replace z0 := (Ext.cell hSw hbZ).trans z0; replace z1 := (Ext.cell hSw hbZ).trans z1; go_simp; (try with_reducible rfl))
 case restm7 =>
 try simp only [Act.put, List.setIfInBounds_toArray, List.set_cons_zero, List.set_cons_succ]
 refine wpAnyH_take (i := 8) (oi := ?oim8) (v := ?vm8) ?him8 (by kernel_rfl) (by kernel_rfl) (by kernel_rfl) ?hQm8 (Or.inl ⟨?hwm8, ?hym8⟩) hHeld ?restm8
 case him8 => simp only [List.getElem?_toArray, List.getElem?_cons_succ, List.getElem?_cons_zero]; rfl
 case hQm8 => exact fun _ _ _ h => h
 case hwm8 => rfl
 case hym8 => (intro w9 hSw; replace b0 := (Ext.cell hSw hbB).trans b0; replace b1 := (Ext.cell hSw hbB).trans b1; replace x0 := (Ext.cell hSw hbX).trans x0; replace x1 := (Ext.cell hSw hbX).trans x1; replace z0 := (Ext.cell hSw hbZ).trans z0; replace z1 := (Ext.cell hSw hbZ).trans z1; go_simp; (try with_reducible rfl))
 case restm8 =>
 try simp only [Act.put, List.setIfInBounds_toArray, List.set_cons_zero, List.set_cons_succ]
 refine wpAnyH_ready (rs := [7]) (by kernel_rfl) (by simp) (AllReadyH.cons (o := ?om9) ?im9 (fun K hK => ?_) AllReadyH.nil)
 case im9 => simp only [List.getElem?_toArray, List.getElem?_cons_succ, List.getElem?_cons_zero]; rfl
 rw [if_pos (by rfl)]
 go_simp
 go_at_call 23
 (with_reducible refine (P1 _ hHeld).mono ?_)
 rintro e wz ⟨⟨v, L2, rfl, hy2, hO2⟩, xz⟩
 obtain ⟨a5, c5, rfl, hF2⟩ := hO2.fams
 refine hK.out _ _ (hHeld.trans xz) (fun hHeld => ?_)
 clear hK K
 try simp only [List.setIfInBounds_toArray, List.set_cons_zero, List.set_cons_succ]
 refine wpAnyH_ready (rs := [9]) (by kernel_rfl) (by simp) (AllReadyH.cons (o := ?om10) ?im10 (fun K hK => ?_) AllReadyH.nil)
 case im10 => simp only [List.getElem?_toArray, List.getElem?_cons_succ, List.getElem?_cons_zero]; rfl
 rw [if_pos (by rfl)]
 go_simp
 have S2 := batSame_any tn a5 c5 L2 tn A c l wz (by rw [hlen2 L2 hy2]; omega) (by omega) hF2 (hA.ext hHeld) (hsm2 L2 hy2) hs
 rw [hy2, sameFs_refl, decide_eq_true rfl] at S2
 go_at_call 20
 (with_reducible refine S2.mono ?_)
 rintro e wy ⟨rfl, xy⟩
 clear S2 hF2 hO2
 refine hK.out _ _ (hHeld.trans xy) (fun hHeld => ?_)
 clear hK K
 try simp only [List.setIfInBounds_toArray, List.set_cons_zero, List.set_cons_succ]
 refine wpAnyH_take (i := 10) (oi := ?oim11) (v := ?vm11) ?him11 (by kernel_rfl) (by kernel_rfl) (by kernel_rfl) ?hQm11 (Or.inl ⟨?hwm11, ?hym11⟩) hHeld ?restm11
 case him11 => simp only [List.getElem?_toArray, List.getElem?_cons_succ, List.getElem?_cons_zero]; rfl
 case hQm11 => exact fun _ _ _ h => h
 case hwm11 => rfl
 case hym11 => (intro w9 hSw; skip; go_simp; (try with_reducible rfl))
 case restm11 =>
 try simp only [Act.put, List.setIfInBounds_toArray, List.set_cons_zero, List.set_cons_succ]
 refine wpAnyH_take (i := 11) (oi := ?oim12) (v := ?vm12) ?him12 (by kernel_rfl) (by kernel_rfl) (by kernel_rfl) ?hQm12 (Or.inl ⟨?hwm12, ?hym12⟩) hHeld ?restm12
 case him12 => simp only [List.getElem?_toArray, List.getElem?_cons_succ, List.getElem?_cons_zero]; rfl
 case hQm12 => exact fun _ _ _ h => h
 case hwm12 => rfl
 case hym12 => (intro w9 hSw; skip; go_simp; (try with_reducible rfl))
 case restm12 =>
 try simp only [Act.put, List.setIfInBounds_toArray, List.set_cons_zero, List.set_cons_succ]
 refine wpAnyH_take (i := 12) (oi := ?oim13) (v := ?vm13) ?him13 (by kernel_rfl) (by kernel_rfl) (by kernel_rfl) ?hQm13 (Or.inl ⟨?hwm13, ?hym13⟩) hHeld ?restm13
 case him13 => simp only [List.getElem?_toArray, List.getElem?_cons_succ, List.getElem?_cons_zero]; rfl
 case hQm13 => exact fun _ _ _ h => h
 case hwm13 => rfl
 case hym13 => (intro w9 hSw; replace b0 := (Ext.cell hSw hbB).trans b0; replace b1 := (Ext.cell hSw hbB).trans b1; replace x0 := (Ext.cell hSw hbX).trans x0; replace x1 := (Ext.cell hSw hbX).trans x1; replace z0 := (Ext.cell hSw hbZ).trans z0; replace z1 := (Ext.cell hSw hbZ).trans z1; go_simp; (try with_reducible rfl))
 case restm13 =>
 try simp only [Act.put, List.setIfInBounds_toArray, List.set_cons_zero, List.set_cons_succ]
 refine wpAnyH_take (i := 13) (oi := ?oim14) (v := ?vm14) ?him14 (by kernel_rfl) (by kernel_rfl) (by kernel_rfl) ?hQm14 (Or.inl ⟨?hwm14, ?hym14⟩) hHeld ?restm14
 case him14 => simp only [List.getElem?_toArray, List.getElem?_cons_succ, List.getElem?_cons_zero]; rfl
 case hQm14 => exact fun _ _ _ h => h
 case hwm14 => rfl
 case hym14 => (intro w9 hSw; replace b0 := (Ext.cell hSw hbB).trans b0; replace b1 := (Ext.cell hSw hbB).trans b1; replace x0 := (Ext.cell hSw hbX).trans x0; replace x1 := (Ext.cell hSw hbX).trans x1; replace z0 := (Ext.cell hSw hbZ).trans z0; replace z1 := (Ext.cell hSw hbZ).trans z1; go_simp; (try with_reducible rfl))
 case restm14 =>
 try simp only [Act.put, List.setIfInBounds_toArray, List.set_cons_zero, List.set_cons_succ]
 refine wpAnyH_take (i := 15) (oi := ?oim15) (v := ?vm15) ?him15 (by kernel_rfl) (by kernel_rfl) (by kernel_rfl) ?hQm15 (Or.inl ⟨?hwm15, ?hym15⟩) hHeld ?restm15
 case him15 => simp only [List.getElem?_toArray, List.getElem?_cons_succ, List.getElem?_cons_zero]; rfl
 case hQm15 => exact fun _ _ _ h => h
 case hwm15 => rfl
 case hym15 => (intro w9 hSw; replace b0 := (Ext.cell hSw hbB).trans b0; replace b1 := (Ext.cell hSw hbB).trans b1; replace x0 := (Ext.cell hSw hbX).trans x0; replace x1 := (Ext.cell hSw hbX).trans x1; replace z0 := (Ext.cell hSw hbZ).trans z0; replace z1 := (Ext.cell hSw hbZ).trans z1; go_simp; (try with_reducible rfl))
 case restm15 =>
 try simp only [Act.put, List.setIfInBounds_toArray, List.set_cons_zero, List.set_cons_succ]
 refine wpAnyH_take (i := 16) (oi := ?oim16) (v := ?vm16) ?him16 (by kernel_rfl) (by kernel_rfl) (by kernel_rfl) ?hQm16 (Or.inl ⟨?hwm16, ?hym16⟩) hHeld ?restm16
 case him16 => simp only [List.getElem?_toArray, List.getElem?_cons_succ, List.getElem?_cons_zero]; rfl
 case hQm16 => exact fun _ _ _ h => h
 case hwm16 => rfl
 case hym16 => (intro w9 hSw; replace b0 := (Ext.cell hSw hbB).trans b0; replace b1 := (Ext.cell hSw hbB).trans b1; replace x0 := (Ext.cell hSw hbX).trans x0; replace x1 := (Ext.cell hSw hbX).trans x1; replace z0 := (Ext.cell hSw hbZ).trans z0; replace z1 := (Ext.cell hSw hbZ).trans z1; go_simp; (try with_reducible rfl))
 case restm16 =>
 try simp only [Act.put, List.setIfInBounds_toArray, List.set_cons_zero, List.set_cons_succ]
 refine wpAnyH_take (i := 17) (oi := ?oim17) (v := ?vm17) ?him17 (by kernel_rfl) (by kernel_rfl) (by kernel_rfl) ?hQm17 (Or.inl ⟨?hwm17, ?hym17⟩) hHeld ?restm17
 case him17 => simp only [List.getElem?_toArray, List.getElem?_cons_succ, List.getElem?_cons_zero]; rfl
 case hQm17 => exact fun _ _ _ h => h
 case hwm17 => rfl
 case hym17 => (intro w9 hSw; replace b0 := (Ext.cell hSw hbB).trans b0; replace b1 := (Ext.cell hSw hbB).trans b1; replace x0 := (Ext.cell hSw hbX).trans x0; replace x1 := (Ext.cell hSw hbX).trans x1; replace z0 := (Ext.cell hSw hbZ).trans z0; replace z1 := (Ext.cell hSw hbZ).trans z1; go_simp; (try with_reducible rfl))
 case restm17 =>
 try simp only [Act.put, List.setIfInBounds_toArray, List.set_cons_zero, List.set_cons_succ]
 refine wpAnyH_take (i := 18) (oi := ?oim18) (v := ?vm18) ?him18 (by kernel_rfl) (by kernel_rfl) (by kernel_rfl) ?hQm18 (Or.inl ⟨?hwm18, ?hym18⟩) hHeld ?restm18
 case him18 => simp only [List.getElem?_toArray, List.getElem?_cons_succ, List.getElem?_cons_zero]; rfl
 case hQm18 => exact fun _ _ _ h => h
 case hwm18 => rfl
 case hym18 => (intro w9 hSw; skip; go_simp; (try with_reducible rfl))
 case restm18 =>
 try simp only [Act.put, List.setIfInBounds_toArray, List.set_cons_zero, List.set_cons_succ]
 refine wpAnyH_ready (rs := [14]) (by kernel_rfl) (by simp) (AllReadyH.cons (o := ?om19) ?im19 (fun K hK => ?_) AllReadyH.nil)
 case im19 => simp only [List.getElem?_toArray, List.getElem?_cons_succ, List.getElem?_cons_zero]; rfl
 rw [if_pos (by rfl)]
 go_simp
 go_at_call 20
 (with_reducible refine (S3 _ hHeld).mono ?_)
 rintro e wz ⟨rfl, xz⟩
 refine hK.out _ _ (hHeld.trans xz) (fun hHeld => ?_)
 clear hK K
 try simp only [List.setIfInBounds_toArray, List.set_cons_zero, List.set_cons_succ]
 refine wpAnyH_take (i := 19) (oi := ?oim20) (v := ?vm20) ?him20 (by kernel_rfl) (by kernel_rfl) (by kernel_rfl) ?hQm20 (Or.inl ⟨?hwm20, ?hym20⟩) hHeld ?restm20
 case him20 => simp only [List.getElem?_toArray, List.getElem?_cons_succ, List.getElem?_cons_zero]; rfl
 case hQm20 => exact fun _ _ _ h => h
 case hwm20 => rfl
 case hym20 => (intro w9 hSw; skip; go_simp; (try with_reducible rfl))
 case restm20 =>
 try simp only [Act.put, List.setIfInBounds_toArray, List.set_cons_zero, List.set_cons_succ]
 refine wpAnyH_take (i := 20) (oi := ?oim21) (v := ?vm21) ?him21 (by kernel_rfl) (by kernel_rfl) (by kernel_rfl) ?hQm21 (Or.inl ⟨?hwm21, ?hym21⟩) hHeld ?restm21
 case him21 => simp only [List.getElem?_toArray, List.getElem?_cons_succ, List.getElem?_cons_zero]; rfl
 case hQm21 => exact fun _ _ _ h => h
 case hwm21 => rfl
 case hym21 => (intro w9 hSw; skip; go_simp; (try with_reducible rfl))
 case restm21 =>
 try simp only [Act.put, List.setIfInBounds_toArray, List.set_cons_zero, List.set_cons_succ]
 refine wpAnyH_take (i := 21) (oi := ?oim22) (v := ?vm22) ?him22 (by kernel_rfl) (by kernel_rfl) (by kernel_rfl) ?hQm22 (Or.inl ⟨?hwm22, ?hym22⟩) hHeld ?restm22
 case him22 => simp only [List.getElem?_toArray, List.getElem?_cons_succ, List.getElem?_cons_zero]; rfl
 case hQm22 => exact fun _ _ _ h => h
 case hwm22 => rfl
 case hym22 => (intro w9 hSw; skip; go_simp; (try with_reducible rfl))
 case restm22 =>
 try simp only [Act.put, List.setIfInBounds_toArray, List.set_cons_zero, List.set_cons_succ]
 refine wpAnyH_done (by kernel_rfl) ?_ _
 go_wp2_with fail
 cases D
 all_goals
  go_ret
  exact ⟨rfl, z2.trans hHeld⟩
end Go.Proofs.YtjjnmefihdjglaaGreat
