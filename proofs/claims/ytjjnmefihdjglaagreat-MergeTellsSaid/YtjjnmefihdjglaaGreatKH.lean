import Derived.Test.YtjjnmefihdjglaaGreatKF
import Derived.Test.YtjjnmefihdjglaaGreatKG
import Derived.BigRegion
import Derived.Deep.RegionHeld3
set_option maxRecDepth 100000
set_option maxHeartbeats 64000000
set_option linter.all false
namespace Go.Proofs.YtjjnmefihdjglaaGreat
open Go.RowKit
def PtD.cs (p : PtD) : List Value := [.slice p.a p.l.length p.c,.int .i64 p.r,.bool p.f,.int .i64 p.M,.int .i64 p.S,.int .i64 p.m,.int .i64 p.s,.bool p.t,.int .i64 p.T]
theorem swr_p (b n c : Nat) (x y k : Nat) (d : Nat → PtD) (w0 w : World) (F : Value) (_hb : b < w0.heap.size) (hn : n ≤ 1000) (hx : x + k ≤ y) (hy : y + k ≤ n) (hX : ExtB b w0 w) (hR : RowE 9 40 PtD.cs b n d w) :
  Calls Tryz.prog 141 #[.slice (some ⟨b,0,none⟩) n c,.int .i64 x,.int .i64 y,.int .i64 k,F] w fun e w' => e = .returned (.tuple #[]) ∧ RowE 9 40 PtD.cs b n (exF d x y k) w' ∧ ExtB b w0 w' := by
 go_enter Tryz.func141,Tryz.ntmps141
 go_wp2_with fail
 go_loopw [10] (fun i wr => ∃ j : Nat,i = .int .i64 j ∧ j ≤ k ∧ RowE 9 40 PtD.cs b n (exF d x y j) wr ∧ ExtB b w0 wr) (fun i _ => k - (intOf i).toNat)
 case atStart => exact ⟨0,rfl,by omega,by rw [exF_zero]; exact hR,hX⟩
 case round =>
  obtain ⟨j,rfl,hj,HR',HX'⟩ := hrel
  clear hR hX
  by_cases hlt : j < k
  ·obtain ⟨u,hu0⟩ : ∃ u,x + j = u := ⟨_,rfl⟩
   obtain ⟨v,hv0⟩ : ∃ v,y + j = v := ⟨_,rfl⟩
   have hu : u < n := by omega
   have hv : v < n := by omega
   have uv : ¬ u = v := by omega
   have vu : ¬ v = u := by omega
   have eu : (x : Int) + (j : Int) = (u : Int) := by omega
   have ev : (y : Int) + (j : Int) = (v : Int) := by omega
   have u0 : (0 : Int) ≤ (u : Int) := by omega
   have u1 : (u : Int) < (n : Int) := by omega
   have v1 : (v : Int) < (n : Int) := by omega
   have u2 : IntKind.i64.wrap (u : Int) = (u : Int) := IntWalk.i64_in _ (by omega)
   have v2 : IntKind.i64.wrap (v : Int) = (v : Int) := IntWalk.i64_in _ (by omega)
   have st : swF (exF d x y j) u v = exF d x y (j + 1) := by rw [← hu0,← hv0]; exact exF_step d x y j k hx hlt
   obtain ⟨d',hd'⟩ : ∃ d',exF d x y j = d' := ⟨_,rfl⟩
   rw [hd'] at HR' st
   obtain ⟨p,hp⟩ : ∃ p,d' u = p := ⟨_,rfl⟩
   obtain ⟨q,hq⟩ : ∃ q,d' v = q := ⟨_,rfl⟩
   have p0 : wr.cell? ⟨b,u * 9,none⟩ = some (.slice p.a p.l.length p.c) := HR'.cell u 0 _ hu (by decide) (by rw [hp]; rfl)
   have fp0 : wr.frozen? ⟨b,u * 9,none⟩ = false := HR'.free _
   have p1 : wr.cell? ⟨b,u * 9 + 1,none⟩ = some (.int .i64 p.r) := HR'.cell u 1 _ hu (by decide) (by rw [hp]; rfl)
   have fp1 : wr.frozen? ⟨b,u * 9 + 1,none⟩ = false := HR'.free _
   have p2 : wr.cell? ⟨b,u * 9 + 2,none⟩ = some (.bool p.f) := HR'.cell u 2 _ hu (by decide) (by rw [hp]; rfl)
   have fp2 : wr.frozen? ⟨b,u * 9 + 2,none⟩ = false := HR'.free _
   have p3 : wr.cell? ⟨b,u * 9 + 3,none⟩ = some (.int .i64 p.M) := HR'.cell u 3 _ hu (by decide) (by rw [hp]; rfl)
   have fp3 : wr.frozen? ⟨b,u * 9 + 3,none⟩ = false := HR'.free _
   have p4 : wr.cell? ⟨b,u * 9 + 4,none⟩ = some (.int .i64 p.S) := HR'.cell u 4 _ hu (by decide) (by rw [hp]; rfl)
   have fp4 : wr.frozen? ⟨b,u * 9 + 4,none⟩ = false := HR'.free _
   have p5 : wr.cell? ⟨b,u * 9 + 5,none⟩ = some (.int .i64 p.m) := HR'.cell u 5 _ hu (by decide) (by rw [hp]; rfl)
   have fp5 : wr.frozen? ⟨b,u * 9 + 5,none⟩ = false := HR'.free _
   have p6 : wr.cell? ⟨b,u * 9 + 6,none⟩ = some (.int .i64 p.s) := HR'.cell u 6 _ hu (by decide) (by rw [hp]; rfl)
   have fp6 : wr.frozen? ⟨b,u * 9 + 6,none⟩ = false := HR'.free _
   have p7 : wr.cell? ⟨b,u * 9 + 7,none⟩ = some (.bool p.t) := HR'.cell u 7 _ hu (by decide) (by rw [hp]; rfl)
   have fp7 : wr.frozen? ⟨b,u * 9 + 7,none⟩ = false := HR'.free _
   have p8 : wr.cell? ⟨b,u * 9 + 8,none⟩ = some (.int .i64 p.T) := HR'.cell u 8 _ hu (by decide) (by rw [hp]; rfl)
   have fp8 : wr.frozen? ⟨b,u * 9 + 8,none⟩ = false := HR'.free _
   have q0 : wr.cell? ⟨b,v * 9,none⟩ = some (.slice q.a q.l.length q.c) := HR'.cell v 0 _ hv (by decide) (by rw [hq]; rfl)
   have fq0 : wr.frozen? ⟨b,v * 9,none⟩ = false := HR'.free _
   have q1 : wr.cell? ⟨b,v * 9 + 1,none⟩ = some (.int .i64 q.r) := HR'.cell v 1 _ hv (by decide) (by rw [hq]; rfl)
   have fq1 : wr.frozen? ⟨b,v * 9 + 1,none⟩ = false := HR'.free _
   have q2 : wr.cell? ⟨b,v * 9 + 2,none⟩ = some (.bool q.f) := HR'.cell v 2 _ hv (by decide) (by rw [hq]; rfl)
   have fq2 : wr.frozen? ⟨b,v * 9 + 2,none⟩ = false := HR'.free _
   have q3 : wr.cell? ⟨b,v * 9 + 3,none⟩ = some (.int .i64 q.M) := HR'.cell v 3 _ hv (by decide) (by rw [hq]; rfl)
   have fq3 : wr.frozen? ⟨b,v * 9 + 3,none⟩ = false := HR'.free _
   have q4 : wr.cell? ⟨b,v * 9 + 4,none⟩ = some (.int .i64 q.S) := HR'.cell v 4 _ hv (by decide) (by rw [hq]; rfl)
   have fq4 : wr.frozen? ⟨b,v * 9 + 4,none⟩ = false := HR'.free _
   have q5 : wr.cell? ⟨b,v * 9 + 5,none⟩ = some (.int .i64 q.m) := HR'.cell v 5 _ hv (by decide) (by rw [hq]; rfl)
   have fq5 : wr.frozen? ⟨b,v * 9 + 5,none⟩ = false := HR'.free _
   have q6 : wr.cell? ⟨b,v * 9 + 6,none⟩ = some (.int .i64 q.s) := HR'.cell v 6 _ hv (by decide) (by rw [hq]; rfl)
   have fq6 : wr.frozen? ⟨b,v * 9 + 6,none⟩ = false := HR'.free _
   have q7 : wr.cell? ⟨b,v * 9 + 7,none⟩ = some (.bool q.t) := HR'.cell v 7 _ hv (by decide) (by rw [hq]; rfl)
   have fq7 : wr.frozen? ⟨b,v * 9 + 7,none⟩ = false := HR'.free _
   have q8 : wr.cell? ⟨b,v * 9 + 8,none⟩ = some (.int .i64 q.T) := HR'.cell v 8 _ hv (by decide) (by rw [hq]; rfl)
   have fq8 : wr.frozen? ⟨b,v * 9 + 8,none⟩ = false := HR'.free _
   have H2 := RowE.swap (cs := PtD.cs) (fun _ => rfl) HR' u v hu hv
   have X2 := HX'.swap (u * 9) (v * 9) (PtD.cs (d' v)) (PtD.cs (d' u))
   rw [hp,hq] at H2 X2
   replace H2 := Lib.hid H2
   replace X2 := Lib.hid X2
   clear HR' HX'
   rw [st] at H2
   clear hd' st hp hq
   go_wp2_with fail
   go_region
   go_wp2_with fail
   go_roundw
   case rel => exact ⟨j + 1,rfl,hlt,H2.out,X2.out⟩
   case measure => simp only [intOf]; omega
  ·have hkj : k = j := by omega
   subst hkj
   have H2 := Lib.hid HR'
   have X2 := Lib.hid HX'
   clear HR' HX'
   go_wp2_with fail
   go_end0
   exact ⟨rfl,H2.out,X2.out⟩
theorem rot_p (b n c : Nat) (a m e : Nat) (d : Nat → PtD) (w0 w : World) (F : Value) (hb : b < w0.heap.size) (hn : n ≤ 1000) (ham : a < m) (hme : m < e) (he : e ≤ n) (hX : ExtB b w0 w) (hR : RowE 9 40 PtD.cs b n d w) :
  Calls Tryz.prog 137 #[.slice (some ⟨b,0,none⟩) n c,.int .i64 a,.int .i64 m,.int .i64 e,F] w fun z w' => z = .returned (.tuple #[]) ∧ RowE 9 40 PtD.cs b n (rotF d a m e) w' ∧ Sw a e d (rotF d a m e) ∧ ExtB b w0 w' := by
 have SWR := fun (x y k : Nat) (d : Nat → PtD) (w : World) => swr_p b n c x y k d w0 w F hb hn
 obtain ⟨ma,hma⟩ : ∃ ma,m - a = ma := ⟨_,rfl⟩
 obtain ⟨em,hem⟩ : ∃ em,e - m = em := ⟨_,rfl⟩
 have ei : (m : Int) - (a : Int) = (ma : Int) := by omega
 have ej : (e : Int) - (m : Int) = (em : Int) := by omega
 have w1 : IntKind.i64.wrap (ma : Int) = (ma : Int) := IntWalk.i64_in _ (by omega)
 have w2 : IntKind.i64.wrap (em : Int) = (em : Int) := IntWalk.i64_in _ (by omega)
 go_enter Tryz.func137,Tryz.ntmps137
 go_wp2_with fail
 go_loopw [10,11] (fun vi vj wr => ∃ (i j : Nat) (d' : Nat → PtD),vi = .int .i64 i ∧ vj = .int .i64 j ∧ 0 < i ∧ 0 < j ∧ i ≤ m - a ∧ j ≤ e - m ∧ Hid (Sw a e d d' ∧ rotF d' (m - i) m (m + j) = rotF d a m e) ∧ RowE 9 40 PtD.cs b n d' wr ∧ ExtB b w0 wr) (fun vi vj _ => (intOf vi).toNat + (intOf vj).toNat)
 case atStart => exact ⟨ma,em,d,rfl,rfl,by omega,by omega,by omega,by omega,Lib.hid ⟨.refl,by rw [show m - ma = a from by omega,show m + em = e from by omega]⟩,hR,hX⟩
 case round =>
  obtain ⟨i,j,d',rfl,rfl,hi0,hj0,hi,hj,HQ,HR',HX'⟩ := hrel
  clear hR hX ei ej w1 w2
  obtain ⟨u,hu⟩ : ∃ u,m - i = u := ⟨_,rfl⟩
  have eu : (m : Int) - (i : Int) = (u : Int) := by omega
  have eu2 : IntKind.i64.wrap (u : Int) = (u : Int) := IntWalk.i64_in _ (by omega)
  by_cases hij : i = j
  ·subst hij
   have C0 := SWR u m i d' wr (by omega) (by omega) HX' HR'
   have HQ2 : Hid (exF d' u m i = rotF d a m e ∧ Sw a e d (exF d' u m i)) := Lib.hid ⟨by rw [← hu,rotF_even d' m i (by omega)]; exact HQ.out.2,HQ.out.1.trans (exF_sw d' u m i a e (by omega) (by omega) (by omega) i (Nat.le_refl _))⟩
   clear HQ HR' HX' hu SWR
   go_wp2_with fail
   (with_reducible refine C0.mono ?_)
   rintro z w1 ⟨rfl,H2,X2⟩
   clear C0
   rw [HQ2.out.1] at H2
   go_wp2_with fail
   go_end0
   exact ⟨rfl,H2,by rw [← HQ2.out.1]; exact HQ2.out.2,X2⟩
  ·have nij : ¬ (i : Int) = (j : Int) := by omega
   by_cases hgt : j < i
   ·have C0 := SWR u m j d' wr (by omega) (by omega) HX' HR'
    have gt : (j : Int) < (i : Int) := by omega
    obtain ⟨i2,hi2⟩ : ∃ i2,i - j = i2 := ⟨_,rfl⟩
    have ei2 : (i : Int) - (j : Int) = (i2 : Int) := by omega
    have wi2 : IntKind.i64.wrap (i2 : Int) = (i2 : Int) := IntWalk.i64_in _ (by omega)
    have HQ2 : Hid (Sw a e d (exF d' u m j) ∧ rotF (exF d' u m j) (m - i2) m (m + j) = rotF d a m e) := Lib.hid ⟨HQ.out.1.trans (exF_sw d' u m j a e (by omega) (by omega) (by omega) j (Nat.le_refl _)),by rw [← hi2,← hu,rotF_left d' m i j (by omega) hgt]; exact HQ.out.2⟩
    clear HQ HR' HX' SWR
    go_wp2_with fail
    (with_reducible refine C0.mono ?_)
    rintro z w1 ⟨rfl,H2,X2⟩
    clear C0
    go_wp2_with fail
    go_roundw
    case rel => exact ⟨i2,j,_,rfl,rfl,by omega,hj0,by omega,hj,HQ2,H2,X2⟩
    case measure => simp only [intOf]; omega
   ·obtain ⟨v,hv⟩ : ∃ v,m + j - i = v := ⟨_,rfl⟩
    obtain ⟨mj,hmj⟩ : ∃ mj,m + j = mj := ⟨_,rfl⟩
    have ev0 : (m : Int) + (j : Int) = (mj : Int) := by omega
    have ev : (mj : Int) - (i : Int) = (v : Int) := by omega
    have ev1 : IntKind.i64.wrap (mj : Int) = (mj : Int) := IntWalk.i64_in _ (by omega)
    have ev2 : IntKind.i64.wrap (v : Int) = (v : Int) := IntWalk.i64_in _ (by omega)
    have C0 := SWR u v i d' wr (by omega) (by omega) HX' HR'
    have gt : ¬ (j : Int) < (i : Int) := by omega
    obtain ⟨j2,hj2⟩ : ∃ j2,j - i = j2 := ⟨_,rfl⟩
    have ej2 : (j : Int) - (i : Int) = (j2 : Int) := by omega
    have wj2 : IntKind.i64.wrap (j2 : Int) = (j2 : Int) := IntWalk.i64_in _ (by omega)
    have HQ2 : Hid (Sw a e d (exF d' u v i) ∧ rotF (exF d' u v i) (m - i) m (m + j2) = rotF d a m e) := Lib.hid ⟨HQ.out.1.trans (exF_sw d' u v i a e (by omega) (by omega) (by omega) i (Nat.le_refl _)),by rw [← hj2,← hu,← hv,rotF_right d' m i j (by omega) (by omega)]; exact HQ.out.2⟩
    clear HQ HR' HX' SWR
    go_wp2_with fail
    (with_reducible refine C0.mono ?_)
    rintro z w1 ⟨rfl,H2,X2⟩
    clear C0
    go_wp2_with fail
    go_roundw
    case rel => exact ⟨i,j2,_,rfl,rfl,hi0,by omega,hi,by omega,HQ2,H2,X2⟩
    case measure => simp only [intOf]; omega
theorem ins_p (S : PtD → Prop) (cf : PtD → PtD → Int) (L : Lt (fun x y => decide (cf x y < 0))) (b n c : Nat) (d : Nat → PtD) (w0 w : World) (hb : b < w0.heap.size) (hn : n ≤ 1000) (hX : ExtB b w0 w) (hR : RowE 9 40 PtD.cs b n d w) (hS : ∀ i,i < n → S (d i)) (C : ∀ W x y,ExtB b w0 W → S x → S y → Calls Tryz.prog 56 #[x.v,y.v] W fun e w' => e = .returned (.int .i64 (cf x y)) ∧ Ext W w') (a e : Nat) (hae : a ≤ e) (he : e ≤ n) :
  Calls Tryz.prog 125 #[.slice (some ⟨b,0,none⟩) n c,.int .i64 a,.int .i64 e,.func (.func 56) #[] #[]] w fun z w' => z = .returned (.tuple #[]) ∧ ∃ d',Sw a e d d' ∧ Sd (fun x y => decide (cf x y < 0)) d' a e ∧ RowE 9 40 PtD.cs b n d' w' ∧ ExtB b w0 w' := by
 go_enter Tryz.func125,Tryz.ntmps125
 go_wp2_with fail
 go_loopw [8] (fun v wr => ∃ (i : Nat) (d1 : Nat → PtD),v = .int .i64 i ∧ a + 1 ≤ i ∧ (i ≤ e ∨ i = a + 1) ∧ Hid (Sw a e d d1 ∧ Sd (fun x y => decide (cf x y < 0)) d1 a i) ∧ RowE 9 40 PtD.cs b n d1 wr ∧ ExtB b w0 wr) (fun v _ => e - (intOf v).toNat)
 case atStart => exact ⟨a + 1,d,by first | rfl | exact vI (by omega) | exact vI (by rw [IntWalk.i64_in _ (by omega)]; omega),by omega,by omega,Lib.hid ⟨.refl,Sd.small _ _ _ (by omega)⟩,hR,hX⟩
 case round =>
  obtain ⟨i,d1,rfl,hi,hi2,H1,HR1,HX1⟩ := hrel
  clear hR hX
  by_cases hlt : i < e
  ·have ilt : (i : Int) < (e : Int) := by omega
   have ei1 : IntKind.i64.wrap ((i : Int) + 1) = (i : Int) + 1 := IntWalk.i64_in _ (by omega)
   go_wp2_with fail
   go_loopw [9] (fun v wr => ∃ (j : Nat) (d2 : Nat → PtD),v = .int .i64 j ∧ a ≤ j ∧ j ≤ i ∧ Hid (Sw a e d d2 ∧ InsI (fun x y => decide (cf x y < 0)) d2 a i j) ∧ RowE 9 40 PtD.cs b n d2 wr ∧ ExtB b w0 wr) (fun v _ => (intOf v).toNat)
   case atStart => exact ⟨i,d1,rfl,by omega,Nat.le_refl _,Lib.hid ⟨H1.out.1,InsI.start H1.out.2⟩,HR1,HX1⟩
   case round =>
    obtain ⟨j,d2,rfl,hj,hji,HQ,HR',HX'⟩ := hrel
    clear HR1 HX1 H1
    by_cases hja : a < j
    ·obtain ⟨k,rfl⟩ : ∃ k,j = k + 1 := ⟨j - 1,by omega⟩
     have hku : k + 1 < n := by omega
     have hk0 : k < n := by omega
     obtain ⟨p,hp⟩ : ∃ p,d2 (k + 1) = p := ⟨_,rfl⟩
     obtain ⟨q,hq⟩ : ∃ q,d2 k = q := ⟨_,rfl⟩
     have src : ∀ y,y < n → S (d2 y) := fun y hy => by
      by_cases h : a ≤ y ∧ y < e
      ·obtain ⟨z,_,z2,ez⟩ := HQ.out.1.src y h.1 h.2
       rw [ez]; exact hS z (by omega)
      ·rw [HQ.out.1.out y (by omega)]; exact hS y hy
     have Sp : S p := hp ▸ src _ hku
     have Sq : S q := hq ▸ src _ hk0
     have C1 := fun W h => C W p q h Sp Sq
     obtain ⟨cv,hcv⟩ : ∃ cv,cf p q = cv := ⟨_,rfl⟩
     rw [hcv] at C1
     unfold PtD.v ptV at C1
     have e1 : IntKind.i64.wrap (k : Int) = (k : Int) := IntWalk.i64_in _ (by omega)
     have e2 : (k : Int) + 1 < (n : Int) := by omega
     have e3 : (0 : Int) ≤ (k : Int) + 1 := by omega
     have e4 : (k : Int) < (n : Int) := by omega
     have e5 : (a : Int) < (k : Int) + 1 := by omega
     clear Sp Sq src
     by_cases h0 : cv < 0
     ·have hgo : Hid (Sw a e d (swF d2 (k + 1) k) ∧ InsI (fun x y => decide (cf x y < 0)) (swF d2 (k + 1) k) a i k) := Lib.hid ⟨HQ.out.1.swap _ _ (by omega) (by omega) (by omega) (by omega),InsI.step L HQ.out.2 (by omega) hji (by rw [hp,hq,hcv]; exact decide_eq_true h0)⟩
      clear HQ hcv
      go_wp2_with fail
      refine wp_region_held_drew (S := (fun W => RowE 9 40 PtD.cs b n d2 W ∧ ExtB b w0 W)) (by kernel_rfl) (⟨HR'.drew,HX'.drew⟩) (fun hH => ?_)
      refine tk 0 rfl (by kernel_rfl) (fun _ _ _ h => h) rfl (fun w9 hS9 => by go_simp; (try rfl)) hH ?_
      try simp only [Act.put,aT,aZ,aS]
      refine tk 1 rfl (by kernel_rfl) (fun _ _ _ h => h) rfl (fun w9 hS9 => by go_simp; (try rfl)) hH ?_
      try simp only [Act.put,aT,aZ,aS]
      refine tk 2 rfl (by kernel_rfl) (fun _ _ _ h => h) rfl (fun w9 hS9 => by go_simp; (try rfl)) hH ?_
      try simp only [Act.put,aT,aZ,aS]
      refine tk 3 rfl (by kernel_rfl) (fun _ _ _ h => h) rfl (fun w9 hS9 => by go_simp; (try rfl)) hH ?_
      try simp only [Act.put,aT,aZ,aS]
      refine tk 4 rfl (by kernel_rfl) (fun _ _ _ h => h) rfl (fun w9 hS9 => by go_simp; (try rfl)) hH ?_
      try simp only [Act.put,aT,aZ,aS]
      refine tk 5 rfl (by kernel_rfl) (fun _ _ _ h => h) rfl (fun w9 hS9 => by go_simp; (try rfl)) hH ?_
      try simp only [Act.put,aT,aZ,aS]
      refine tk 6 rfl (by kernel_rfl) (fun _ _ _ h => h) rfl (fun w9 hS9 => by go_simp; (try rfl)) hH ?_
      try simp only [Act.put,aT,aZ,aS]
      refine tk 7 rfl (by kernel_rfl) (fun _ _ _ h => h) rfl (fun w9 hS9 => by go_simp; (try rfl)) hH ?_
      try simp only [Act.put,aT,aZ,aS]
      refine tk 8 rfl (by kernel_rfl) (fun _ _ _ h => h) rfl (fun w9 hS9 => by have p0 : w9.cell? ⟨b,(k + 1) * 9,none⟩ = some (.slice p.a p.l.length p.c) := hS9.1.cell (k + 1) 0 _ hku (by decide) (by rw [hp]; rfl); have p1 : w9.cell? ⟨b,(k + 1) * 9 + 1,none⟩ = some (.int .i64 p.r) := hS9.1.cell (k + 1) 1 _ hku (by decide) (by rw [hp]; rfl); have p2 : w9.cell? ⟨b,(k + 1) * 9 + 2,none⟩ = some (.bool p.f) := hS9.1.cell (k + 1) 2 _ hku (by decide) (by rw [hp]; rfl); have p3 : w9.cell? ⟨b,(k + 1) * 9 + 3,none⟩ = some (.int .i64 p.M) := hS9.1.cell (k + 1) 3 _ hku (by decide) (by rw [hp]; rfl); have p4 : w9.cell? ⟨b,(k + 1) * 9 + 4,none⟩ = some (.int .i64 p.S) := hS9.1.cell (k + 1) 4 _ hku (by decide) (by rw [hp]; rfl); have p5 : w9.cell? ⟨b,(k + 1) * 9 + 5,none⟩ = some (.int .i64 p.m) := hS9.1.cell (k + 1) 5 _ hku (by decide) (by rw [hp]; rfl); have p6 : w9.cell? ⟨b,(k + 1) * 9 + 6,none⟩ = some (.int .i64 p.s) := hS9.1.cell (k + 1) 6 _ hku (by decide) (by rw [hp]; rfl); have p7 : w9.cell? ⟨b,(k + 1) * 9 + 7,none⟩ = some (.bool p.t) := hS9.1.cell (k + 1) 7 _ hku (by decide) (by rw [hp]; rfl); have p8 : w9.cell? ⟨b,(k + 1) * 9 + 8,none⟩ = some (.int .i64 p.T) := hS9.1.cell (k + 1) 8 _ hku (by decide) (by rw [hp]; rfl); go_simp; (try rfl)) hH ?_
      try simp only [Act.put,aT,aZ,aS]
      refine tk 9 rfl (by kernel_rfl) (fun _ _ _ h => h) rfl (fun w9 hS9 => by go_simp; (try rfl)) hH ?_
      try simp only [Act.put,aT,aZ,aS]
      refine tk 10 rfl (by kernel_rfl) (fun _ _ _ h => h) rfl (fun w9 hS9 => by go_simp; (try rfl)) hH ?_
      try simp only [Act.put,aT,aZ,aS]
      refine tk 11 rfl (by kernel_rfl) (fun _ _ _ h => h) rfl (fun w9 hS9 => by go_simp; (try rfl)) hH ?_
      try simp only [Act.put,aT,aZ,aS]
      refine tk 12 rfl (by kernel_rfl) (fun _ _ _ h => h) rfl (fun w9 hS9 => by go_simp; (try rfl)) hH ?_
      try simp only [Act.put,aT,aZ,aS]
      refine tk 13 rfl (by kernel_rfl) (fun _ _ _ h => h) rfl (fun w9 hS9 => by have q0 : w9.cell? ⟨b,k * 9,none⟩ = some (.slice q.a q.l.length q.c) := hS9.1.cell k 0 _ hk0 (by decide) (by rw [hq]; rfl); have q1 : w9.cell? ⟨b,k * 9 + 1,none⟩ = some (.int .i64 q.r) := hS9.1.cell k 1 _ hk0 (by decide) (by rw [hq]; rfl); have q2 : w9.cell? ⟨b,k * 9 + 2,none⟩ = some (.bool q.f) := hS9.1.cell k 2 _ hk0 (by decide) (by rw [hq]; rfl); have q3 : w9.cell? ⟨b,k * 9 + 3,none⟩ = some (.int .i64 q.M) := hS9.1.cell k 3 _ hk0 (by decide) (by rw [hq]; rfl); have q4 : w9.cell? ⟨b,k * 9 + 4,none⟩ = some (.int .i64 q.S) := hS9.1.cell k 4 _ hk0 (by decide) (by rw [hq]; rfl); have q5 : w9.cell? ⟨b,k * 9 + 5,none⟩ = some (.int .i64 q.m) := hS9.1.cell k 5 _ hk0 (by decide) (by rw [hq]; rfl); have q6 : w9.cell? ⟨b,k * 9 + 6,none⟩ = some (.int .i64 q.s) := hS9.1.cell k 6 _ hk0 (by decide) (by rw [hq]; rfl); have q7 : w9.cell? ⟨b,k * 9 + 7,none⟩ = some (.bool q.t) := hS9.1.cell k 7 _ hk0 (by decide) (by rw [hq]; rfl); have q8 : w9.cell? ⟨b,k * 9 + 8,none⟩ = some (.int .i64 q.T) := hS9.1.cell k 8 _ hk0 (by decide) (by rw [hq]; rfl); go_simp; (try rfl)) hH ?_
      try simp only [Act.put,aT,aZ,aS]
      refine wR (rs := [14]) (by kernel_rfl) (by simp) (aR rfl (fun K hK => ?_) aN)
      rw [if_pos (by rfl)]
      go_simp
      go_at_call 56
      (with_reducible refine (C1 _ hH.2).mono ?_)
      rintro e wz ⟨rfl,xz⟩
      refine hK.out _ _ (⟨hH.1.ext xz,hH.2.ext xz hb⟩) (fun hH => ?_)
      clear hK K
      try simp only [aT,aZ,aS]
      refine tk 15 rfl (by kernel_rfl) (fun _ _ _ h => h) rfl (fun w9 hS9 => by go_simp; (try rfl)) hH ?_
      try simp only [Act.put,aT,aZ,aS]
      refine tk 16 rfl (by kernel_rfl) (fun _ _ _ h => h) rfl (fun w9 hS9 => by go_simp; (try rfl)) hH ?_
      try simp only [Act.put,aT,aZ,aS]
      refine wpAnyH_done (by kernel_rfl) ?_ _
      go_wp2_with fail
      obtain ⟨HR2,HX2⟩ := hH
      have p0 : wz.cell? ⟨b,(k + 1) * 9,none⟩ = some (.slice p.a p.l.length p.c) := HR2.cell (k + 1) 0 _ hku (by decide) (by rw [hp]; rfl)
      have fp0 : wz.frozen? ⟨b,(k + 1) * 9,none⟩ = false := HR2.free _
      have p1 : wz.cell? ⟨b,(k + 1) * 9 + 1,none⟩ = some (.int .i64 p.r) := HR2.cell (k + 1) 1 _ hku (by decide) (by rw [hp]; rfl)
      have fp1 : wz.frozen? ⟨b,(k + 1) * 9 + 1,none⟩ = false := HR2.free _
      have p2 : wz.cell? ⟨b,(k + 1) * 9 + 2,none⟩ = some (.bool p.f) := HR2.cell (k + 1) 2 _ hku (by decide) (by rw [hp]; rfl)
      have fp2 : wz.frozen? ⟨b,(k + 1) * 9 + 2,none⟩ = false := HR2.free _
      have p3 : wz.cell? ⟨b,(k + 1) * 9 + 3,none⟩ = some (.int .i64 p.M) := HR2.cell (k + 1) 3 _ hku (by decide) (by rw [hp]; rfl)
      have fp3 : wz.frozen? ⟨b,(k + 1) * 9 + 3,none⟩ = false := HR2.free _
      have p4 : wz.cell? ⟨b,(k + 1) * 9 + 4,none⟩ = some (.int .i64 p.S) := HR2.cell (k + 1) 4 _ hku (by decide) (by rw [hp]; rfl)
      have fp4 : wz.frozen? ⟨b,(k + 1) * 9 + 4,none⟩ = false := HR2.free _
      have p5 : wz.cell? ⟨b,(k + 1) * 9 + 5,none⟩ = some (.int .i64 p.m) := HR2.cell (k + 1) 5 _ hku (by decide) (by rw [hp]; rfl)
      have fp5 : wz.frozen? ⟨b,(k + 1) * 9 + 5,none⟩ = false := HR2.free _
      have p6 : wz.cell? ⟨b,(k + 1) * 9 + 6,none⟩ = some (.int .i64 p.s) := HR2.cell (k + 1) 6 _ hku (by decide) (by rw [hp]; rfl)
      have fp6 : wz.frozen? ⟨b,(k + 1) * 9 + 6,none⟩ = false := HR2.free _
      have p7 : wz.cell? ⟨b,(k + 1) * 9 + 7,none⟩ = some (.bool p.t) := HR2.cell (k + 1) 7 _ hku (by decide) (by rw [hp]; rfl)
      have fp7 : wz.frozen? ⟨b,(k + 1) * 9 + 7,none⟩ = false := HR2.free _
      have p8 : wz.cell? ⟨b,(k + 1) * 9 + 8,none⟩ = some (.int .i64 p.T) := HR2.cell (k + 1) 8 _ hku (by decide) (by rw [hp]; rfl)
      have fp8 : wz.frozen? ⟨b,(k + 1) * 9 + 8,none⟩ = false := HR2.free _
      have q0 : wz.cell? ⟨b,k * 9,none⟩ = some (.slice q.a q.l.length q.c) := HR2.cell k 0 _ hk0 (by decide) (by rw [hq]; rfl)
      have fq0 : wz.frozen? ⟨b,k * 9,none⟩ = false := HR2.free _
      have q1 : wz.cell? ⟨b,k * 9 + 1,none⟩ = some (.int .i64 q.r) := HR2.cell k 1 _ hk0 (by decide) (by rw [hq]; rfl)
      have fq1 : wz.frozen? ⟨b,k * 9 + 1,none⟩ = false := HR2.free _
      have q2 : wz.cell? ⟨b,k * 9 + 2,none⟩ = some (.bool q.f) := HR2.cell k 2 _ hk0 (by decide) (by rw [hq]; rfl)
      have fq2 : wz.frozen? ⟨b,k * 9 + 2,none⟩ = false := HR2.free _
      have q3 : wz.cell? ⟨b,k * 9 + 3,none⟩ = some (.int .i64 q.M) := HR2.cell k 3 _ hk0 (by decide) (by rw [hq]; rfl)
      have fq3 : wz.frozen? ⟨b,k * 9 + 3,none⟩ = false := HR2.free _
      have q4 : wz.cell? ⟨b,k * 9 + 4,none⟩ = some (.int .i64 q.S) := HR2.cell k 4 _ hk0 (by decide) (by rw [hq]; rfl)
      have fq4 : wz.frozen? ⟨b,k * 9 + 4,none⟩ = false := HR2.free _
      have q5 : wz.cell? ⟨b,k * 9 + 5,none⟩ = some (.int .i64 q.m) := HR2.cell k 5 _ hk0 (by decide) (by rw [hq]; rfl)
      have fq5 : wz.frozen? ⟨b,k * 9 + 5,none⟩ = false := HR2.free _
      have q6 : wz.cell? ⟨b,k * 9 + 6,none⟩ = some (.int .i64 q.s) := HR2.cell k 6 _ hk0 (by decide) (by rw [hq]; rfl)
      have fq6 : wz.frozen? ⟨b,k * 9 + 6,none⟩ = false := HR2.free _
      have q7 : wz.cell? ⟨b,k * 9 + 7,none⟩ = some (.bool q.t) := HR2.cell k 7 _ hk0 (by decide) (by rw [hq]; rfl)
      have fq7 : wz.frozen? ⟨b,k * 9 + 7,none⟩ = false := HR2.free _
      have q8 : wz.cell? ⟨b,k * 9 + 8,none⟩ = some (.int .i64 q.T) := HR2.cell k 8 _ hk0 (by decide) (by rw [hq]; rfl)
      have fq8 : wz.frozen? ⟨b,k * 9 + 8,none⟩ = false := HR2.free _
      have H2 := RowE.swap (cs := PtD.cs) (fun _ => rfl) HR2 (k + 1) k hku hk0
      have X2 := HX2.swap ((k + 1) * 9) (k * 9) (PtD.cs (d2 k)) (PtD.cs (d2 (k + 1)))
      rw [hp,hq] at H2 X2
      replace H2 := Lib.hid H2
      replace X2 := Lib.hid X2
      clear HR2 HX2
      clear hp hq C1 HR' HX'
      go_wp2_with fail
      go_region
      go_wp2_with fail
      go_roundw
      case rel => exact ⟨k,_,rfl,by omega,by omega,hgo,H2.out,X2.out⟩
      case measure => simp only [intOf]; omega
     ·have hgo : Hid (Sw a e d d2 ∧ Sd (fun x y => decide (cf x y < 0)) d2 a (i + 1)) := Lib.hid ⟨HQ.out.1,InsI.stop L HQ.out.2 (Or.inr ⟨hja,by rw [show k + 1 - 1 = k from rfl,hp,hq,hcv]; exact decide_eq_false h0⟩)⟩
      clear HQ hcv
      go_wp2_with fail
      refine wp_region_held_drew (S := (fun W => RowE 9 40 PtD.cs b n d2 W ∧ ExtB b w0 W)) (by kernel_rfl) (⟨HR'.drew,HX'.drew⟩) (fun hH => ?_)
      refine tk 0 rfl (by kernel_rfl) (fun _ _ _ h => h) rfl (fun w9 hS9 => by go_simp; (try rfl)) hH ?_
      try simp only [Act.put,aT,aZ,aS]
      refine tk 1 rfl (by kernel_rfl) (fun _ _ _ h => h) rfl (fun w9 hS9 => by go_simp; (try rfl)) hH ?_
      try simp only [Act.put,aT,aZ,aS]
      refine tk 2 rfl (by kernel_rfl) (fun _ _ _ h => h) rfl (fun w9 hS9 => by go_simp; (try rfl)) hH ?_
      try simp only [Act.put,aT,aZ,aS]
      refine tk 3 rfl (by kernel_rfl) (fun _ _ _ h => h) rfl (fun w9 hS9 => by go_simp; (try rfl)) hH ?_
      try simp only [Act.put,aT,aZ,aS]
      refine tk 4 rfl (by kernel_rfl) (fun _ _ _ h => h) rfl (fun w9 hS9 => by go_simp; (try rfl)) hH ?_
      try simp only [Act.put,aT,aZ,aS]
      refine tk 5 rfl (by kernel_rfl) (fun _ _ _ h => h) rfl (fun w9 hS9 => by go_simp; (try rfl)) hH ?_
      try simp only [Act.put,aT,aZ,aS]
      refine tk 6 rfl (by kernel_rfl) (fun _ _ _ h => h) rfl (fun w9 hS9 => by go_simp; (try rfl)) hH ?_
      try simp only [Act.put,aT,aZ,aS]
      refine tk 7 rfl (by kernel_rfl) (fun _ _ _ h => h) rfl (fun w9 hS9 => by go_simp; (try rfl)) hH ?_
      try simp only [Act.put,aT,aZ,aS]
      refine tk 8 rfl (by kernel_rfl) (fun _ _ _ h => h) rfl (fun w9 hS9 => by have p0 : w9.cell? ⟨b,(k + 1) * 9,none⟩ = some (.slice p.a p.l.length p.c) := hS9.1.cell (k + 1) 0 _ hku (by decide) (by rw [hp]; rfl); have p1 : w9.cell? ⟨b,(k + 1) * 9 + 1,none⟩ = some (.int .i64 p.r) := hS9.1.cell (k + 1) 1 _ hku (by decide) (by rw [hp]; rfl); have p2 : w9.cell? ⟨b,(k + 1) * 9 + 2,none⟩ = some (.bool p.f) := hS9.1.cell (k + 1) 2 _ hku (by decide) (by rw [hp]; rfl); have p3 : w9.cell? ⟨b,(k + 1) * 9 + 3,none⟩ = some (.int .i64 p.M) := hS9.1.cell (k + 1) 3 _ hku (by decide) (by rw [hp]; rfl); have p4 : w9.cell? ⟨b,(k + 1) * 9 + 4,none⟩ = some (.int .i64 p.S) := hS9.1.cell (k + 1) 4 _ hku (by decide) (by rw [hp]; rfl); have p5 : w9.cell? ⟨b,(k + 1) * 9 + 5,none⟩ = some (.int .i64 p.m) := hS9.1.cell (k + 1) 5 _ hku (by decide) (by rw [hp]; rfl); have p6 : w9.cell? ⟨b,(k + 1) * 9 + 6,none⟩ = some (.int .i64 p.s) := hS9.1.cell (k + 1) 6 _ hku (by decide) (by rw [hp]; rfl); have p7 : w9.cell? ⟨b,(k + 1) * 9 + 7,none⟩ = some (.bool p.t) := hS9.1.cell (k + 1) 7 _ hku (by decide) (by rw [hp]; rfl); have p8 : w9.cell? ⟨b,(k + 1) * 9 + 8,none⟩ = some (.int .i64 p.T) := hS9.1.cell (k + 1) 8 _ hku (by decide) (by rw [hp]; rfl); go_simp; (try rfl)) hH ?_
      try simp only [Act.put,aT,aZ,aS]
      refine tk 9 rfl (by kernel_rfl) (fun _ _ _ h => h) rfl (fun w9 hS9 => by go_simp; (try rfl)) hH ?_
      try simp only [Act.put,aT,aZ,aS]
      refine tk 10 rfl (by kernel_rfl) (fun _ _ _ h => h) rfl (fun w9 hS9 => by go_simp; (try rfl)) hH ?_
      try simp only [Act.put,aT,aZ,aS]
      refine tk 11 rfl (by kernel_rfl) (fun _ _ _ h => h) rfl (fun w9 hS9 => by go_simp; (try rfl)) hH ?_
      try simp only [Act.put,aT,aZ,aS]
      refine tk 12 rfl (by kernel_rfl) (fun _ _ _ h => h) rfl (fun w9 hS9 => by go_simp; (try rfl)) hH ?_
      try simp only [Act.put,aT,aZ,aS]
      refine tk 13 rfl (by kernel_rfl) (fun _ _ _ h => h) rfl (fun w9 hS9 => by have q0 : w9.cell? ⟨b,k * 9,none⟩ = some (.slice q.a q.l.length q.c) := hS9.1.cell k 0 _ hk0 (by decide) (by rw [hq]; rfl); have q1 : w9.cell? ⟨b,k * 9 + 1,none⟩ = some (.int .i64 q.r) := hS9.1.cell k 1 _ hk0 (by decide) (by rw [hq]; rfl); have q2 : w9.cell? ⟨b,k * 9 + 2,none⟩ = some (.bool q.f) := hS9.1.cell k 2 _ hk0 (by decide) (by rw [hq]; rfl); have q3 : w9.cell? ⟨b,k * 9 + 3,none⟩ = some (.int .i64 q.M) := hS9.1.cell k 3 _ hk0 (by decide) (by rw [hq]; rfl); have q4 : w9.cell? ⟨b,k * 9 + 4,none⟩ = some (.int .i64 q.S) := hS9.1.cell k 4 _ hk0 (by decide) (by rw [hq]; rfl); have q5 : w9.cell? ⟨b,k * 9 + 5,none⟩ = some (.int .i64 q.m) := hS9.1.cell k 5 _ hk0 (by decide) (by rw [hq]; rfl); have q6 : w9.cell? ⟨b,k * 9 + 6,none⟩ = some (.int .i64 q.s) := hS9.1.cell k 6 _ hk0 (by decide) (by rw [hq]; rfl); have q7 : w9.cell? ⟨b,k * 9 + 7,none⟩ = some (.bool q.t) := hS9.1.cell k 7 _ hk0 (by decide) (by rw [hq]; rfl); have q8 : w9.cell? ⟨b,k * 9 + 8,none⟩ = some (.int .i64 q.T) := hS9.1.cell k 8 _ hk0 (by decide) (by rw [hq]; rfl); go_simp; (try rfl)) hH ?_
      try simp only [Act.put,aT,aZ,aS]
      refine wR (rs := [14]) (by kernel_rfl) (by simp) (aR rfl (fun K hK => ?_) aN)
      rw [if_pos (by rfl)]
      go_simp
      go_at_call 56
      (with_reducible refine (C1 _ hH.2).mono ?_)
      rintro e wz ⟨rfl,xz⟩
      refine hK.out _ _ (⟨hH.1.ext xz,hH.2.ext xz hb⟩) (fun hH => ?_)
      clear hK K
      try simp only [aT,aZ,aS]
      refine tk 15 rfl (by kernel_rfl) (fun _ _ _ h => h) rfl (fun w9 hS9 => by go_simp; (try rfl)) hH ?_
      try simp only [Act.put,aT,aZ,aS]
      refine tk 16 rfl (by kernel_rfl) (fun _ _ _ h => h) rfl (fun w9 hS9 => by go_simp; (try rfl)) hH ?_
      try simp only [Act.put,aT,aZ,aS]
      refine wpAnyH_done (by kernel_rfl) ?_ _
      clear hp hq C1 HR' HX'
      go_wp2_with fail
      go_roundw
      case rel => exact ⟨i + 1,d2,rfl,by omega,by omega,hgo,hH.1,hH.2⟩
      case measure => simp only [intOf]; omega
    ·have hgo : Hid (Sw a e d d2 ∧ Sd (fun x y => decide (cf x y < 0)) d2 a (i + 1)) := Lib.hid ⟨HQ.out.1,InsI.stop L HQ.out.2 (Or.inl (by omega))⟩
     have e5 : ¬ (a : Int) < (j : Int) := by omega
     clear HQ
     go_wp2_with fail
     refine wp_region_held_drew (S := (fun W => RowE 9 40 PtD.cs b n d2 W ∧ ExtB b w0 W)) (by kernel_rfl) (⟨HR'.drew,HX'.drew⟩) (fun hH => ?_)
     refine tk 0 rfl (by kernel_rfl) (fun _ _ _ h => h) rfl (fun w9 hS9 => by go_simp; (try rfl)) hH ?_
     try simp only [Act.put,aT,aZ,aS]
     refine tk 1 rfl (by kernel_rfl) (fun _ _ _ h => h) rfl (fun w9 hS9 => by go_simp; (try rfl)) hH ?_
     try simp only [Act.put,aT,aZ,aS]
     refine tk 2 rfl (by kernel_rfl) (fun _ _ _ h => h) rfl (fun w9 hS9 => by go_simp; (try rfl)) hH ?_
     try simp only [Act.put,aT,aZ,aS]
     refine tk 3 rfl (by kernel_rfl) (fun _ _ _ h => h) rfl (fun w9 hS9 => by go_simp; (try rfl)) hH ?_
     try simp only [Act.put,aT,aZ,aS]
     refine tk0 4 rfl (by kernel_rfl) (fun _ _ _ h => h) rfl hH ?_
     try simp only [Act.put,aT,aZ,aS]
     refine tk0 5 rfl (by kernel_rfl) (fun _ _ _ h => h) rfl hH ?_
     try simp only [Act.put,aT,aZ,aS]
     refine tk0 6 rfl (by kernel_rfl) (fun _ _ _ h => h) rfl hH ?_
     try simp only [Act.put,aT,aZ,aS]
     refine tk0 7 rfl (by kernel_rfl) (fun _ _ _ h => h) rfl hH ?_
     try simp only [Act.put,aT,aZ,aS]
     refine tk0 8 rfl (by kernel_rfl) (fun _ _ _ h => h) rfl hH ?_
     try simp only [Act.put,aT,aZ,aS]
     refine tk0 9 rfl (by kernel_rfl) (fun _ _ _ h => h) rfl hH ?_
     try simp only [Act.put,aT,aZ,aS]
     refine tk0 10 rfl (by kernel_rfl) (fun _ _ _ h => h) rfl hH ?_
     try simp only [Act.put,aT,aZ,aS]
     refine tk0 11 rfl (by kernel_rfl) (fun _ _ _ h => h) rfl hH ?_
     try simp only [Act.put,aT,aZ,aS]
     refine tk0 12 rfl (by kernel_rfl) (fun _ _ _ h => h) rfl hH ?_
     try simp only [Act.put,aT,aZ,aS]
     refine tk0 13 rfl (by kernel_rfl) (fun _ _ _ h => h) rfl hH ?_
     try simp only [Act.put,aT,aZ,aS]
     refine tk0 14 rfl (by kernel_rfl) (fun _ _ _ h => h) rfl hH ?_
     try simp only [Act.put,aT,aZ,aS]
     refine tk0 15 rfl (by kernel_rfl) (fun _ _ _ h => h) rfl hH ?_
     try simp only [Act.put,aT,aZ,aS]
     refine tk 16 rfl (by kernel_rfl) (fun _ _ _ h => h) rfl (fun w9 hS9 => by go_simp; (try rfl)) hH ?_
     try simp only [Act.put,aT,aZ,aS]
     refine wpAnyH_done (by kernel_rfl) ?_ _
     clear HR' HX'
     go_wp2_with fail
     go_roundw
     case rel => exact ⟨i + 1,d2,rfl,by omega,by omega,hgo,hH.1,hH.2⟩
     case measure => simp only [intOf]; omega
  ·have hgo : Hid (Sw a e d d1 ∧ Sd (fun x y => decide (cf x y < 0)) d1 a e) := Lib.hid ⟨H1.out.1,H1.out.2.sub (Nat.le_refl _) (by omega)⟩
   have ilt : ¬ (i : Int) < (e : Int) := by omega
   clear H1
   go_wp2_with fail
   go_end0
   exact ⟨rfl,d1,hgo.out.1,hgo.out.2,HR1,HX1⟩
end Go.Proofs.YtjjnmefihdjglaaGreat
