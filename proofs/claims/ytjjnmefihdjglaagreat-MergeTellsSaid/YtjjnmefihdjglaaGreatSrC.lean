import Derived.Test.YtjjnmefihdjglaaGreatKH
set_option maxRecDepth 100000
set_option maxHeartbeats 64000000
set_option linter.all false
namespace Go.Proofs.YtjjnmefihdjglaaGreat
open Go.RowKit
theorem sym1_p (S : PtD → Prop) (cf : PtD → PtD → Int) (L : Lt (fun x y => decide (cf x y < 0))) (b n c : Nat) (d : Nat → PtD) (w0 w : World) (hb : b < w0.heap.size) (hn : n ≤ 1000) (hX : ExtB b w0 w) (hR : RowE 9 40 PtD.cs b n d w) (hS : ∀ i,i < n → S (d i)) (C : ∀ W x y,ExtB b w0 W → S x → S y → Calls Tryz.prog 56 #[x.v,y.v] W fun e w' => e = .returned (.int .i64 (cf x y)) ∧ Ext W w') (a m e : Nat) (ham : m = a + 1) (hme : m < e) (he : e ≤ n) (h2 : Sd (fun x y => decide (cf x y < 0)) d m e) :
  Calls Tryz.prog 126 #[.slice (some ⟨b,0,none⟩) n c,.int .i64 a,.int .i64 m,.int .i64 e,.func (.func 56) #[] #[]] w fun z w' => z = .returned (.tuple #[]) ∧ ∃ d',Sw a e d d' ∧ Sd (fun x y => decide (cf x y < 0)) d' a e ∧ RowE 9 40 PtD.cs b n d' w' ∧ ExtB b w0 w' := by
 have em : (m : Int) - (a : Int) = 1 := by omega
 have ham2 : a < m := by omega
 have ham3 : m ≤ a + 1 := by omega
 replace ham := Lib.hid ham
 go_enter Tryz.func126,Tryz.ntmps126
 go_wp2_with fail
 go_loopw [10,11] (fun vi vj wr => ∃ (i j : Nat),vi = .int .i64 i ∧ vj = .int .i64 j ∧ m ≤ i ∧ i ≤ j ∧ j ≤ e ∧ Hid ((i = m ∨ (fun x y => decide (cf x y < 0)) (d (i - 1)) (d a) = true) ∧ (j = e ∨ (fun x y => decide (cf x y < 0)) (d j) (d a) = false)) ∧ RowE 9 40 PtD.cs b n d wr ∧ ExtB b w0 wr) (fun vi vj _ => (intOf vj).toNat - (intOf vi).toNat)
 case atStart => exact ⟨m,e,rfl,rfl,by omega,by omega,by omega,Lib.hid ⟨Or.inl rfl,Or.inl rfl⟩,hR,hX⟩
 case round =>
  obtain ⟨i,j,rfl,rfl,hi,hij,hj,HQ,HR',HX'⟩ := hrel
  clear hR hX
  by_cases hlt : i < j
  ·have ilt : (i : Int) < (j : Int) := by omega
   obtain ⟨h,hh⟩ : ∃ h,(i + j) / 2 = h := ⟨_,rfl⟩
   have eh : ((i : Int) + (j : Int)) / 2 = (h : Int) := by omega
   have hb1 : i ≤ h := by omega
   have hb2 : h < j := by omega
   have hku : h < n := by omega
   have hk0 : a < n := by omega
   obtain ⟨p,hp⟩ : ∃ p,d h = p := ⟨_,rfl⟩
   obtain ⟨q,hq⟩ : ∃ q,d a = q := ⟨_,rfl⟩
   have C1 := fun W h => C W p q h (hp ▸ hS _ hku) (hq ▸ hS _ hk0)
   obtain ⟨cv,hcv⟩ : ∃ cv,cf p q = cv := ⟨_,rfl⟩
   rw [hcv] at C1
   unfold PtD.v ptV at C1
   have b1 : (h : Int) < (n : Int) := by omega
   have b2 : (a : Int) < (n : Int) := by omega
   have b3 : IntKind.i64.wrap (h : Int) = (h : Int) := IntWalk.i64_in _ (by omega)
   have b4 : IntKind.i64.wrap (a : Int) = (a : Int) := IntWalk.i64_in _ (by omega)
   have b5 : IntKind.i64.wrap ((h : Int) + 1) = (h : Int) + 1 := IntWalk.i64_in _ (by omega)
   by_cases h0 : cv < 0
   ·have hgo : Hid ((h + 1 = m ∨ (fun x y => decide (cf x y < 0)) (d (h + 1 - 1)) (d a) = true) ∧ (j = e ∨ (fun x y => decide (cf x y < 0)) (d j) (d a) = false)) := Lib.hid ⟨Or.inr (by rw [Nat.add_sub_cancel,hp,hq]; show decide (cf p q < 0) = true; rw [hcv]; exact decide_eq_true h0),HQ.out.2⟩
    clear HQ hcv hh
    go_wp2_with fail
    refine wp_region_held_drew (S := (fun W => RowE 9 40 PtD.cs b n d W ∧ ExtB b w0 W)) (by kernel_rfl) (⟨HR'.drew,HX'.drew⟩) (fun hH => ?_)
    refine tk 0 rfl (by kernel_rfl) (fun _ _ _ h => h) rfl (fun w9 hS9 => by go_simp; (try rfl)) hH ?_
    try simp only [Act.put,aT,aZ,aS]
    refine tk 1 rfl (by kernel_rfl) (fun _ _ _ h => h) rfl (fun w9 hS9 => by go_simp; (try rfl)) hH ?_
    try simp only [Act.put,aT,aZ,aS]
    refine tk 2 rfl (by kernel_rfl) (fun _ _ _ h => h) rfl (fun w9 hS9 => by go_simp; (try rfl)) hH ?_
    try simp only [Act.put,aT,aZ,aS]
    refine tk 3 rfl (by kernel_rfl) (fun _ _ _ h => h) rfl (fun w9 hS9 => by go_simp; (try rfl)) hH ?_
    try simp only [Act.put,aT,aZ,aS]
    refine tk 4 rfl (by kernel_rfl) (fun _ _ _ h => h) rfl (fun w9 hS9 => by have p0 : w9.cell? ⟨b,h * 9,none⟩ = some (.slice p.a p.l.length p.c) := hS9.1.cell h 0 _ hku (by decide) (by rw [hp]; rfl); have p1 : w9.cell? ⟨b,h * 9 + 1,none⟩ = some (.int .i64 p.r) := hS9.1.cell h 1 _ hku (by decide) (by rw [hp]; rfl); have p2 : w9.cell? ⟨b,h * 9 + 2,none⟩ = some (.bool p.f) := hS9.1.cell h 2 _ hku (by decide) (by rw [hp]; rfl); have p3 : w9.cell? ⟨b,h * 9 + 3,none⟩ = some (.int .i64 p.M) := hS9.1.cell h 3 _ hku (by decide) (by rw [hp]; rfl); have p4 : w9.cell? ⟨b,h * 9 + 4,none⟩ = some (.int .i64 p.S) := hS9.1.cell h 4 _ hku (by decide) (by rw [hp]; rfl); have p5 : w9.cell? ⟨b,h * 9 + 5,none⟩ = some (.int .i64 p.m) := hS9.1.cell h 5 _ hku (by decide) (by rw [hp]; rfl); have p6 : w9.cell? ⟨b,h * 9 + 6,none⟩ = some (.int .i64 p.s) := hS9.1.cell h 6 _ hku (by decide) (by rw [hp]; rfl); have p7 : w9.cell? ⟨b,h * 9 + 7,none⟩ = some (.bool p.t) := hS9.1.cell h 7 _ hku (by decide) (by rw [hp]; rfl); have p8 : w9.cell? ⟨b,h * 9 + 8,none⟩ = some (.int .i64 p.T) := hS9.1.cell h 8 _ hku (by decide) (by rw [hp]; rfl); go_simp; (try rfl)) hH ?_
    try simp only [Act.put,aT,aZ,aS]
    refine tk 5 rfl (by kernel_rfl) (fun _ _ _ h => h) rfl (fun w9 hS9 => by go_simp; (try rfl)) hH ?_
    try simp only [Act.put,aT,aZ,aS]
    refine tk 6 rfl (by kernel_rfl) (fun _ _ _ h => h) rfl (fun w9 hS9 => by go_simp; (try rfl)) hH ?_
    try simp only [Act.put,aT,aZ,aS]
    refine tk 7 rfl (by kernel_rfl) (fun _ _ _ h => h) rfl (fun w9 hS9 => by go_simp; (try rfl)) hH ?_
    try simp only [Act.put,aT,aZ,aS]
    refine tk 8 rfl (by kernel_rfl) (fun _ _ _ h => h) rfl (fun w9 hS9 => by have q0 : w9.cell? ⟨b,a * 9,none⟩ = some (.slice q.a q.l.length q.c) := hS9.1.cell a 0 _ hk0 (by decide) (by rw [hq]; rfl); have q1 : w9.cell? ⟨b,a * 9 + 1,none⟩ = some (.int .i64 q.r) := hS9.1.cell a 1 _ hk0 (by decide) (by rw [hq]; rfl); have q2 : w9.cell? ⟨b,a * 9 + 2,none⟩ = some (.bool q.f) := hS9.1.cell a 2 _ hk0 (by decide) (by rw [hq]; rfl); have q3 : w9.cell? ⟨b,a * 9 + 3,none⟩ = some (.int .i64 q.M) := hS9.1.cell a 3 _ hk0 (by decide) (by rw [hq]; rfl); have q4 : w9.cell? ⟨b,a * 9 + 4,none⟩ = some (.int .i64 q.S) := hS9.1.cell a 4 _ hk0 (by decide) (by rw [hq]; rfl); have q5 : w9.cell? ⟨b,a * 9 + 5,none⟩ = some (.int .i64 q.m) := hS9.1.cell a 5 _ hk0 (by decide) (by rw [hq]; rfl); have q6 : w9.cell? ⟨b,a * 9 + 6,none⟩ = some (.int .i64 q.s) := hS9.1.cell a 6 _ hk0 (by decide) (by rw [hq]; rfl); have q7 : w9.cell? ⟨b,a * 9 + 7,none⟩ = some (.bool q.t) := hS9.1.cell a 7 _ hk0 (by decide) (by rw [hq]; rfl); have q8 : w9.cell? ⟨b,a * 9 + 8,none⟩ = some (.int .i64 q.T) := hS9.1.cell a 8 _ hk0 (by decide) (by rw [hq]; rfl); go_simp; (try rfl)) hH ?_
    try simp only [Act.put,aT,aZ,aS]
    refine wR (rs := [9]) (by kernel_rfl) (by simp) (aR rfl (fun K hK => ?_) aN)
    rw [if_pos (by rfl)]
    go_simp
    go_at_call 56
    (with_reducible refine (C1 _ hH.2).mono ?_)
    rintro e wz ⟨rfl,xz⟩
    refine hK.out _ _ (⟨hH.1.ext xz,hH.2.ext xz hb⟩) (fun hH => ?_)
    clear hK K
    try simp only [aT,aZ,aS]
    refine tk 10 rfl (by kernel_rfl) (fun _ _ _ h => h) rfl (fun w9 hS9 => by go_simp; (try rfl)) hH ?_
    try simp only [Act.put,aT,aZ,aS]
    refine wpAnyH_done (by kernel_rfl) ?_ _
    clear hp hq C1 HR' HX' eh ilt
    go_wp2_with fail
    go_roundw
    case rel => exact ⟨h + 1,j,rfl,rfl,by omega,by omega,hj,hgo,hH.1,hH.2⟩
    case measure => simp only [intOf]; omega
   ·have hgo : Hid ((i = m ∨ (fun x y => decide (cf x y < 0)) (d (i - 1)) (d a) = true) ∧ (h = e ∨ (fun x y => decide (cf x y < 0)) (d h) (d a) = false)) := Lib.hid ⟨HQ.out.1,Or.inr (by rw [hp,hq]; show decide (cf p q < 0) = false; rw [hcv]; exact decide_eq_false h0)⟩
    clear HQ hcv hh
    go_wp2_with fail
    refine wp_region_held_drew (S := (fun W => RowE 9 40 PtD.cs b n d W ∧ ExtB b w0 W)) (by kernel_rfl) (⟨HR'.drew,HX'.drew⟩) (fun hH => ?_)
    refine tk 0 rfl (by kernel_rfl) (fun _ _ _ h => h) rfl (fun w9 hS9 => by go_simp; (try rfl)) hH ?_
    try simp only [Act.put,aT,aZ,aS]
    refine tk 1 rfl (by kernel_rfl) (fun _ _ _ h => h) rfl (fun w9 hS9 => by go_simp; (try rfl)) hH ?_
    try simp only [Act.put,aT,aZ,aS]
    refine tk 2 rfl (by kernel_rfl) (fun _ _ _ h => h) rfl (fun w9 hS9 => by go_simp; (try rfl)) hH ?_
    try simp only [Act.put,aT,aZ,aS]
    refine tk 3 rfl (by kernel_rfl) (fun _ _ _ h => h) rfl (fun w9 hS9 => by go_simp; (try rfl)) hH ?_
    try simp only [Act.put,aT,aZ,aS]
    refine tk 4 rfl (by kernel_rfl) (fun _ _ _ h => h) rfl (fun w9 hS9 => by have p0 : w9.cell? ⟨b,h * 9,none⟩ = some (.slice p.a p.l.length p.c) := hS9.1.cell h 0 _ hku (by decide) (by rw [hp]; rfl); have p1 : w9.cell? ⟨b,h * 9 + 1,none⟩ = some (.int .i64 p.r) := hS9.1.cell h 1 _ hku (by decide) (by rw [hp]; rfl); have p2 : w9.cell? ⟨b,h * 9 + 2,none⟩ = some (.bool p.f) := hS9.1.cell h 2 _ hku (by decide) (by rw [hp]; rfl); have p3 : w9.cell? ⟨b,h * 9 + 3,none⟩ = some (.int .i64 p.M) := hS9.1.cell h 3 _ hku (by decide) (by rw [hp]; rfl); have p4 : w9.cell? ⟨b,h * 9 + 4,none⟩ = some (.int .i64 p.S) := hS9.1.cell h 4 _ hku (by decide) (by rw [hp]; rfl); have p5 : w9.cell? ⟨b,h * 9 + 5,none⟩ = some (.int .i64 p.m) := hS9.1.cell h 5 _ hku (by decide) (by rw [hp]; rfl); have p6 : w9.cell? ⟨b,h * 9 + 6,none⟩ = some (.int .i64 p.s) := hS9.1.cell h 6 _ hku (by decide) (by rw [hp]; rfl); have p7 : w9.cell? ⟨b,h * 9 + 7,none⟩ = some (.bool p.t) := hS9.1.cell h 7 _ hku (by decide) (by rw [hp]; rfl); have p8 : w9.cell? ⟨b,h * 9 + 8,none⟩ = some (.int .i64 p.T) := hS9.1.cell h 8 _ hku (by decide) (by rw [hp]; rfl); go_simp; (try rfl)) hH ?_
    try simp only [Act.put,aT,aZ,aS]
    refine tk 5 rfl (by kernel_rfl) (fun _ _ _ h => h) rfl (fun w9 hS9 => by go_simp; (try rfl)) hH ?_
    try simp only [Act.put,aT,aZ,aS]
    refine tk 6 rfl (by kernel_rfl) (fun _ _ _ h => h) rfl (fun w9 hS9 => by go_simp; (try rfl)) hH ?_
    try simp only [Act.put,aT,aZ,aS]
    refine tk 7 rfl (by kernel_rfl) (fun _ _ _ h => h) rfl (fun w9 hS9 => by go_simp; (try rfl)) hH ?_
    try simp only [Act.put,aT,aZ,aS]
    refine tk 8 rfl (by kernel_rfl) (fun _ _ _ h => h) rfl (fun w9 hS9 => by have q0 : w9.cell? ⟨b,a * 9,none⟩ = some (.slice q.a q.l.length q.c) := hS9.1.cell a 0 _ hk0 (by decide) (by rw [hq]; rfl); have q1 : w9.cell? ⟨b,a * 9 + 1,none⟩ = some (.int .i64 q.r) := hS9.1.cell a 1 _ hk0 (by decide) (by rw [hq]; rfl); have q2 : w9.cell? ⟨b,a * 9 + 2,none⟩ = some (.bool q.f) := hS9.1.cell a 2 _ hk0 (by decide) (by rw [hq]; rfl); have q3 : w9.cell? ⟨b,a * 9 + 3,none⟩ = some (.int .i64 q.M) := hS9.1.cell a 3 _ hk0 (by decide) (by rw [hq]; rfl); have q4 : w9.cell? ⟨b,a * 9 + 4,none⟩ = some (.int .i64 q.S) := hS9.1.cell a 4 _ hk0 (by decide) (by rw [hq]; rfl); have q5 : w9.cell? ⟨b,a * 9 + 5,none⟩ = some (.int .i64 q.m) := hS9.1.cell a 5 _ hk0 (by decide) (by rw [hq]; rfl); have q6 : w9.cell? ⟨b,a * 9 + 6,none⟩ = some (.int .i64 q.s) := hS9.1.cell a 6 _ hk0 (by decide) (by rw [hq]; rfl); have q7 : w9.cell? ⟨b,a * 9 + 7,none⟩ = some (.bool q.t) := hS9.1.cell a 7 _ hk0 (by decide) (by rw [hq]; rfl); have q8 : w9.cell? ⟨b,a * 9 + 8,none⟩ = some (.int .i64 q.T) := hS9.1.cell a 8 _ hk0 (by decide) (by rw [hq]; rfl); go_simp; (try rfl)) hH ?_
    try simp only [Act.put,aT,aZ,aS]
    refine wR (rs := [9]) (by kernel_rfl) (by simp) (aR rfl (fun K hK => ?_) aN)
    rw [if_pos (by rfl)]
    go_simp
    go_at_call 56
    (with_reducible refine (C1 _ hH.2).mono ?_)
    rintro e wz ⟨rfl,xz⟩
    refine hK.out _ _ (⟨hH.1.ext xz,hH.2.ext xz hb⟩) (fun hH => ?_)
    clear hK K
    try simp only [aT,aZ,aS]
    refine tk 10 rfl (by kernel_rfl) (fun _ _ _ h => h) rfl (fun w9 hS9 => by go_simp; (try rfl)) hH ?_
    try simp only [Act.put,aT,aZ,aS]
    refine wpAnyH_done (by kernel_rfl) ?_ _
    clear hp hq C1 HR' HX' eh ilt
    go_wp2_with fail
    go_roundw
    case rel => exact ⟨i,h,rfl,rfl,by omega,by omega,by omega,hgo,hH.1,hH.2⟩
    case measure => simp only [intOf]; omega
  ·have ilt : ¬ (i : Int) < (j : Int) := by omega
   obtain rfl : i = j := by omega
   obtain ⟨i1,rfl⟩ : ∃ i1,i = i1 + 1 := ⟨i - 1,by omega⟩
   have HF : Hid (Sw a e d (upF d a i1) ∧ Sd (fun x y => decide (cf x y < 0)) (upF d a i1) a e) := Lib.hid ⟨by have := upF_sw d a a e (Nat.le_refl _) (i1 - a) (by omega); rwa [show a + (i1 - a) = i1 from by omega] at this,upF_sorted L d a e (i1 + 1) (by rw [← ham.out]; exact h2) (by omega) hj (by rw [← ham.out]; exact HQ.out.1) HQ.out.2⟩
   clear HQ
   have e1 : IntKind.i64.wrap (i1 : Int) = (i1 : Int) := IntWalk.i64_in _ (by omega)
   go_wp2_with fail
   go_loopw [13] (fun vk wr => ∃ k : Nat,vk = .int .i64 k ∧ a ≤ k ∧ k ≤ i1 ∧ RowE 9 40 PtD.cs b n (upF d a k) wr ∧ ExtB b w0 wr) (fun vk _ => i1 - (intOf vk).toNat)
   case atStart => exact ⟨a,rfl,Nat.le_refl _,by omega,by rw [upF_start]; exact HR',HX'⟩
   case round =>
    obtain ⟨k,rfl,hk,hk2,HR2,HX2⟩ := hrel
    clear HR' HX'
    by_cases hlk : k < i1
    ·have hku : k < n := by omega
     have hk0 : k + 1 < n := by omega
     have st := upF_step d a k hk
     obtain ⟨d',hd'⟩ : ∃ d',upF d a k = d' := ⟨_,rfl⟩
     rw [hd'] at HR2 st
     have e2 : (k : Int) + 1 < (n : Int) := by omega
     have e3 : (0 : Int) ≤ (k : Int) + 1 := by omega
     have e4 : (k : Int) < (n : Int) := by omega
     have e5 : (k : Int) < (i1 : Int) := by omega
     have e6 : IntKind.i64.wrap (k : Int) = (k : Int) := IntWalk.i64_in _ (by omega)
     have e7 : IntKind.i64.wrap ((k : Int) + 1) = (k : Int) + 1 := IntWalk.i64_in _ (by omega)
     obtain ⟨p,hp⟩ : ∃ p,d' k = p := ⟨_,rfl⟩
     obtain ⟨q,hq⟩ : ∃ q,d' (k + 1) = q := ⟨_,rfl⟩
     have p0 : wr.cell? ⟨b,k * 9,none⟩ = some (.slice p.a p.l.length p.c) := HR2.cell k 0 _ hku (by decide) (by rw [hp]; rfl)
     have fp0 : wr.frozen? ⟨b,k * 9,none⟩ = false := HR2.free _
     have p1 : wr.cell? ⟨b,k * 9 + 1,none⟩ = some (.int .i64 p.r) := HR2.cell k 1 _ hku (by decide) (by rw [hp]; rfl)
     have fp1 : wr.frozen? ⟨b,k * 9 + 1,none⟩ = false := HR2.free _
     have p2 : wr.cell? ⟨b,k * 9 + 2,none⟩ = some (.bool p.f) := HR2.cell k 2 _ hku (by decide) (by rw [hp]; rfl)
     have fp2 : wr.frozen? ⟨b,k * 9 + 2,none⟩ = false := HR2.free _
     have p3 : wr.cell? ⟨b,k * 9 + 3,none⟩ = some (.int .i64 p.M) := HR2.cell k 3 _ hku (by decide) (by rw [hp]; rfl)
     have fp3 : wr.frozen? ⟨b,k * 9 + 3,none⟩ = false := HR2.free _
     have p4 : wr.cell? ⟨b,k * 9 + 4,none⟩ = some (.int .i64 p.S) := HR2.cell k 4 _ hku (by decide) (by rw [hp]; rfl)
     have fp4 : wr.frozen? ⟨b,k * 9 + 4,none⟩ = false := HR2.free _
     have p5 : wr.cell? ⟨b,k * 9 + 5,none⟩ = some (.int .i64 p.m) := HR2.cell k 5 _ hku (by decide) (by rw [hp]; rfl)
     have fp5 : wr.frozen? ⟨b,k * 9 + 5,none⟩ = false := HR2.free _
     have p6 : wr.cell? ⟨b,k * 9 + 6,none⟩ = some (.int .i64 p.s) := HR2.cell k 6 _ hku (by decide) (by rw [hp]; rfl)
     have fp6 : wr.frozen? ⟨b,k * 9 + 6,none⟩ = false := HR2.free _
     have p7 : wr.cell? ⟨b,k * 9 + 7,none⟩ = some (.bool p.t) := HR2.cell k 7 _ hku (by decide) (by rw [hp]; rfl)
     have fp7 : wr.frozen? ⟨b,k * 9 + 7,none⟩ = false := HR2.free _
     have p8 : wr.cell? ⟨b,k * 9 + 8,none⟩ = some (.int .i64 p.T) := HR2.cell k 8 _ hku (by decide) (by rw [hp]; rfl)
     have fp8 : wr.frozen? ⟨b,k * 9 + 8,none⟩ = false := HR2.free _
     have q0 : wr.cell? ⟨b,(k + 1) * 9,none⟩ = some (.slice q.a q.l.length q.c) := HR2.cell (k + 1) 0 _ hk0 (by decide) (by rw [hq]; rfl)
     have fq0 : wr.frozen? ⟨b,(k + 1) * 9,none⟩ = false := HR2.free _
     have q1 : wr.cell? ⟨b,(k + 1) * 9 + 1,none⟩ = some (.int .i64 q.r) := HR2.cell (k + 1) 1 _ hk0 (by decide) (by rw [hq]; rfl)
     have fq1 : wr.frozen? ⟨b,(k + 1) * 9 + 1,none⟩ = false := HR2.free _
     have q2 : wr.cell? ⟨b,(k + 1) * 9 + 2,none⟩ = some (.bool q.f) := HR2.cell (k + 1) 2 _ hk0 (by decide) (by rw [hq]; rfl)
     have fq2 : wr.frozen? ⟨b,(k + 1) * 9 + 2,none⟩ = false := HR2.free _
     have q3 : wr.cell? ⟨b,(k + 1) * 9 + 3,none⟩ = some (.int .i64 q.M) := HR2.cell (k + 1) 3 _ hk0 (by decide) (by rw [hq]; rfl)
     have fq3 : wr.frozen? ⟨b,(k + 1) * 9 + 3,none⟩ = false := HR2.free _
     have q4 : wr.cell? ⟨b,(k + 1) * 9 + 4,none⟩ = some (.int .i64 q.S) := HR2.cell (k + 1) 4 _ hk0 (by decide) (by rw [hq]; rfl)
     have fq4 : wr.frozen? ⟨b,(k + 1) * 9 + 4,none⟩ = false := HR2.free _
     have q5 : wr.cell? ⟨b,(k + 1) * 9 + 5,none⟩ = some (.int .i64 q.m) := HR2.cell (k + 1) 5 _ hk0 (by decide) (by rw [hq]; rfl)
     have fq5 : wr.frozen? ⟨b,(k + 1) * 9 + 5,none⟩ = false := HR2.free _
     have q6 : wr.cell? ⟨b,(k + 1) * 9 + 6,none⟩ = some (.int .i64 q.s) := HR2.cell (k + 1) 6 _ hk0 (by decide) (by rw [hq]; rfl)
     have fq6 : wr.frozen? ⟨b,(k + 1) * 9 + 6,none⟩ = false := HR2.free _
     have q7 : wr.cell? ⟨b,(k + 1) * 9 + 7,none⟩ = some (.bool q.t) := HR2.cell (k + 1) 7 _ hk0 (by decide) (by rw [hq]; rfl)
     have fq7 : wr.frozen? ⟨b,(k + 1) * 9 + 7,none⟩ = false := HR2.free _
     have q8 : wr.cell? ⟨b,(k + 1) * 9 + 8,none⟩ = some (.int .i64 q.T) := HR2.cell (k + 1) 8 _ hk0 (by decide) (by rw [hq]; rfl)
     have fq8 : wr.frozen? ⟨b,(k + 1) * 9 + 8,none⟩ = false := HR2.free _
     have H2 := RowE.swap (cs := PtD.cs) (fun _ => rfl) HR2 k (k + 1) hku hk0
     have X2 := HX2.swap (k * 9) ((k + 1) * 9) (PtD.cs (d' (k + 1))) (PtD.cs (d' k))
     rw [hp,hq] at H2 X2
     replace H2 := Lib.hid H2
     replace X2 := Lib.hid X2
     clear HR2 HX2
     rw [st] at H2
     clear hd' st hp hq
     go_wp2_with fail
     go_region
     go_wp2_with fail
     go_roundw
     case rel => exact ⟨k + 1,rfl,by omega,hlk,H2.out,X2.out⟩
     case measure => simp only [intOf]; omega
    ·obtain rfl : k = i1 := by omega
     have e5 : ¬ (k : Int) < (k : Int) := by omega
     go_wp2_with fail
     (try simp only [Exit.inBlock,Exit.then])
     refine bodyPost_ret (results_none rfl _ _ _) rfl ?_
     exact ⟨rfl,_,HF.out.1,HF.out.2,HR2,HX2⟩
theorem sym2_p (S : PtD → Prop) (cf : PtD → PtD → Int) (L : Lt (fun x y => decide (cf x y < 0))) (b n c : Nat) (d : Nat → PtD) (w0 w : World) (hb : b < w0.heap.size) (hn : n ≤ 1000) (hX : ExtB b w0 w) (hR : RowE 9 40 PtD.cs b n d w) (hS : ∀ i,i < n → S (d i)) (C : ∀ W x y,ExtB b w0 W → S x → S y → Calls Tryz.prog 56 #[x.v,y.v] W fun e w' => e = .returned (.int .i64 (cf x y)) ∧ Ext W w') (a m e : Nat) (ham : a + 1 < m) (hme : e = m + 1) (he : e ≤ n) (h2 : Sd (fun x y => decide (cf x y < 0)) d a m) :
  Calls Tryz.prog 126 #[.slice (some ⟨b,0,none⟩) n c,.int .i64 a,.int .i64 m,.int .i64 e,.func (.func 56) #[] #[]] w fun z w' => z = .returned (.tuple #[]) ∧ ∃ d',Sw a e d d' ∧ Sd (fun x y => decide (cf x y < 0)) d' a e ∧ RowE 9 40 PtD.cs b n d' w' ∧ ExtB b w0 w' := by
 have em : ¬ (m : Int) - (a : Int) = 1 := by omega
 have em2 : (e : Int) - (m : Int) = 1 := by omega
 obtain ⟨ma,hma⟩ : ∃ ma,m - a = ma := ⟨_,rfl⟩
 have em3 : (m : Int) - (a : Int) = (ma : Int) := by omega
 have em4 : IntKind.i64.wrap (ma : Int) = (ma : Int) := IntWalk.i64_in _ (by omega)
 have em5 : ((ma : Int) == 1) = false := by rw [beq_eq_false_iff_ne]; omega
 have hme2 : m < e := by omega
 have hme3 : e ≤ m + 1 := by omega
 replace hme := Lib.hid hme
 clear em hma
 go_enter Tryz.func126,Tryz.ntmps126
 go_wp2_with fail
 go_loopw [14,15] (fun vi vj wr => ∃ (i j : Nat),vi = .int .i64 i ∧ vj = .int .i64 j ∧ a ≤ i ∧ i ≤ j ∧ j ≤ m ∧ Hid ((i = a ∨ (fun x y => decide (cf x y < 0)) (d m) (d (i - 1)) = false) ∧ (j = m ∨ (fun x y => decide (cf x y < 0)) (d m) (d j) = true)) ∧ RowE 9 40 PtD.cs b n d wr ∧ ExtB b w0 wr) (fun vi vj _ => (intOf vj).toNat - (intOf vi).toNat)
 case atStart => exact ⟨a,m,rfl,rfl,by omega,by omega,by omega,Lib.hid ⟨Or.inl rfl,Or.inl rfl⟩,hR,hX⟩
 case round =>
  obtain ⟨i,j,rfl,rfl,hi,hij,hj,HQ,HR',HX'⟩ := hrel
  clear hR hX
  by_cases hlt : i < j
  ·have ilt : (i : Int) < (j : Int) := by omega
   obtain ⟨h,hh⟩ : ∃ h,(i + j) / 2 = h := ⟨_,rfl⟩
   have eh : ((i : Int) + (j : Int)) / 2 = (h : Int) := by omega
   have hb1 : i ≤ h := by omega
   have hb2 : h < j := by omega
   have hku : m < n := by omega
   have hk0 : h < n := by omega
   obtain ⟨p,hp⟩ : ∃ p,d m = p := ⟨_,rfl⟩
   obtain ⟨q,hq⟩ : ∃ q,d h = q := ⟨_,rfl⟩
   have C1 := fun W h => C W p q h (hp ▸ hS _ hku) (hq ▸ hS _ hk0)
   obtain ⟨cv,hcv⟩ : ∃ cv,cf p q = cv := ⟨_,rfl⟩
   rw [hcv] at C1
   unfold PtD.v ptV at C1
   have b1 : (m : Int) < (n : Int) := by omega
   have b2 : (h : Int) < (n : Int) := by omega
   have b3 : IntKind.i64.wrap (m : Int) = (m : Int) := IntWalk.i64_in _ (by omega)
   have b4 : IntKind.i64.wrap (h : Int) = (h : Int) := IntWalk.i64_in _ (by omega)
   have b5 : IntKind.i64.wrap ((m : Int) + 1) = (m : Int) + 1 := IntWalk.i64_in _ (by omega)
   have b6 : IntKind.i64.wrap ((h : Int) + 1) = (h : Int) + 1 := IntWalk.i64_in _ (by omega)
   by_cases h0 : cv < 0
   ·have hgo : Hid ((i = a ∨ (fun x y => decide (cf x y < 0)) (d m) (d (i - 1)) = false) ∧ (h = m ∨ (fun x y => decide (cf x y < 0)) (d m) (d h) = true)) := Lib.hid ⟨HQ.out.1,Or.inr (by rw [hp,hq]; show decide (cf p q < 0) = true; rw [hcv]; exact decide_eq_true h0)⟩
    have hd : (!decide (cv < 0)) = false := by rw [decide_eq_true h0]; rfl
    clear HQ hcv hh
    go_wp2_with fail
    refine wp_region_held_drew (S := (fun W => RowE 9 40 PtD.cs b n d W ∧ ExtB b w0 W)) (by kernel_rfl) (⟨HR'.drew,HX'.drew⟩) (fun hH => ?_)
    refine tk 0 rfl (by kernel_rfl) (fun _ _ _ h => h) rfl (fun w9 hS9 => by go_simp; (try rfl)) hH ?_
    try simp only [Act.put,aT,aZ,aS]
    refine tk 1 rfl (by kernel_rfl) (fun _ _ _ h => h) rfl (fun w9 hS9 => by go_simp; (try rfl)) hH ?_
    try simp only [Act.put,aT,aZ,aS]
    refine tk 2 rfl (by kernel_rfl) (fun _ _ _ h => h) rfl (fun w9 hS9 => by go_simp; (try rfl)) hH ?_
    try simp only [Act.put,aT,aZ,aS]
    refine tk 3 rfl (by kernel_rfl) (fun _ _ _ h => h) rfl (fun w9 hS9 => by go_simp; (try rfl)) hH ?_
    try simp only [Act.put,aT,aZ,aS]
    refine tk 4 rfl (by kernel_rfl) (fun _ _ _ h => h) rfl (fun w9 hS9 => by have p0 : w9.cell? ⟨b,m * 9,none⟩ = some (.slice p.a p.l.length p.c) := hS9.1.cell m 0 _ hku (by decide) (by rw [hp]; rfl); have p1 : w9.cell? ⟨b,m * 9 + 1,none⟩ = some (.int .i64 p.r) := hS9.1.cell m 1 _ hku (by decide) (by rw [hp]; rfl); have p2 : w9.cell? ⟨b,m * 9 + 2,none⟩ = some (.bool p.f) := hS9.1.cell m 2 _ hku (by decide) (by rw [hp]; rfl); have p3 : w9.cell? ⟨b,m * 9 + 3,none⟩ = some (.int .i64 p.M) := hS9.1.cell m 3 _ hku (by decide) (by rw [hp]; rfl); have p4 : w9.cell? ⟨b,m * 9 + 4,none⟩ = some (.int .i64 p.S) := hS9.1.cell m 4 _ hku (by decide) (by rw [hp]; rfl); have p5 : w9.cell? ⟨b,m * 9 + 5,none⟩ = some (.int .i64 p.m) := hS9.1.cell m 5 _ hku (by decide) (by rw [hp]; rfl); have p6 : w9.cell? ⟨b,m * 9 + 6,none⟩ = some (.int .i64 p.s) := hS9.1.cell m 6 _ hku (by decide) (by rw [hp]; rfl); have p7 : w9.cell? ⟨b,m * 9 + 7,none⟩ = some (.bool p.t) := hS9.1.cell m 7 _ hku (by decide) (by rw [hp]; rfl); have p8 : w9.cell? ⟨b,m * 9 + 8,none⟩ = some (.int .i64 p.T) := hS9.1.cell m 8 _ hku (by decide) (by rw [hp]; rfl); go_simp; (try rfl)) hH ?_
    try simp only [Act.put,aT,aZ,aS]
    refine tk 5 rfl (by kernel_rfl) (fun _ _ _ h => h) rfl (fun w9 hS9 => by go_simp; (try rfl)) hH ?_
    try simp only [Act.put,aT,aZ,aS]
    refine tk 6 rfl (by kernel_rfl) (fun _ _ _ h => h) rfl (fun w9 hS9 => by go_simp; (try rfl)) hH ?_
    try simp only [Act.put,aT,aZ,aS]
    refine tk 7 rfl (by kernel_rfl) (fun _ _ _ h => h) rfl (fun w9 hS9 => by go_simp; (try rfl)) hH ?_
    try simp only [Act.put,aT,aZ,aS]
    refine tk 8 rfl (by kernel_rfl) (fun _ _ _ h => h) rfl (fun w9 hS9 => by have q0 : w9.cell? ⟨b,h * 9,none⟩ = some (.slice q.a q.l.length q.c) := hS9.1.cell h 0 _ hk0 (by decide) (by rw [hq]; rfl); have q1 : w9.cell? ⟨b,h * 9 + 1,none⟩ = some (.int .i64 q.r) := hS9.1.cell h 1 _ hk0 (by decide) (by rw [hq]; rfl); have q2 : w9.cell? ⟨b,h * 9 + 2,none⟩ = some (.bool q.f) := hS9.1.cell h 2 _ hk0 (by decide) (by rw [hq]; rfl); have q3 : w9.cell? ⟨b,h * 9 + 3,none⟩ = some (.int .i64 q.M) := hS9.1.cell h 3 _ hk0 (by decide) (by rw [hq]; rfl); have q4 : w9.cell? ⟨b,h * 9 + 4,none⟩ = some (.int .i64 q.S) := hS9.1.cell h 4 _ hk0 (by decide) (by rw [hq]; rfl); have q5 : w9.cell? ⟨b,h * 9 + 5,none⟩ = some (.int .i64 q.m) := hS9.1.cell h 5 _ hk0 (by decide) (by rw [hq]; rfl); have q6 : w9.cell? ⟨b,h * 9 + 6,none⟩ = some (.int .i64 q.s) := hS9.1.cell h 6 _ hk0 (by decide) (by rw [hq]; rfl); have q7 : w9.cell? ⟨b,h * 9 + 7,none⟩ = some (.bool q.t) := hS9.1.cell h 7 _ hk0 (by decide) (by rw [hq]; rfl); have q8 : w9.cell? ⟨b,h * 9 + 8,none⟩ = some (.int .i64 q.T) := hS9.1.cell h 8 _ hk0 (by decide) (by rw [hq]; rfl); go_simp; (try rfl)) hH ?_
    try simp only [Act.put,aT,aZ,aS]
    refine wR (rs := [9]) (by kernel_rfl) (by simp) (aR rfl (fun K hK => ?_) aN)
    rw [if_pos (by rfl)]
    go_simp
    go_at_call 56
    (with_reducible refine (C1 _ hH.2).mono ?_)
    rintro e wz ⟨rfl,xz⟩
    refine hK.out _ _ (⟨hH.1.ext xz,hH.2.ext xz hb⟩) (fun hH => ?_)
    clear hK K
    try simp only [aT,aZ,aS]
    refine tk 10 rfl (by kernel_rfl) (fun _ _ _ h => h) rfl (fun w9 hS9 => by go_simp; (try rfl)) hH ?_
    try simp only [Act.put,aT,aZ,aS]
    refine tk 11 rfl (by kernel_rfl) (fun _ _ _ h => h) rfl (fun w9 hS9 => by go_simp; (try rfl)) hH ?_
    try simp only [Act.put,aT,aZ,aS]
    refine wpAnyH_done (by kernel_rfl) ?_ _
    clear hp hq C1 HR' HX' eh ilt
    go_wp2_with fail
    go_roundw
    case rel => exact ⟨i,h,rfl,rfl,by omega,by omega,by omega,hgo,hH.1,hH.2⟩
    case measure => simp only [intOf]; omega
   ·have hgo : Hid ((h + 1 = a ∨ (fun x y => decide (cf x y < 0)) (d m) (d (h + 1 - 1)) = false) ∧ (j = m ∨ (fun x y => decide (cf x y < 0)) (d m) (d j) = true)) := Lib.hid ⟨Or.inr (by rw [Nat.add_sub_cancel,hp,hq]; show decide (cf p q < 0) = false; rw [hcv]; exact decide_eq_false h0),HQ.out.2⟩
    have hd : (!decide (cv < 0)) = true := by rw [decide_eq_false h0]; rfl
    clear HQ hcv hh
    go_wp2_with fail
    refine wp_region_held_drew (S := (fun W => RowE 9 40 PtD.cs b n d W ∧ ExtB b w0 W)) (by kernel_rfl) (⟨HR'.drew,HX'.drew⟩) (fun hH => ?_)
    refine tk 0 rfl (by kernel_rfl) (fun _ _ _ h => h) rfl (fun w9 hS9 => by go_simp; (try rfl)) hH ?_
    try simp only [Act.put,aT,aZ,aS]
    refine tk 1 rfl (by kernel_rfl) (fun _ _ _ h => h) rfl (fun w9 hS9 => by go_simp; (try rfl)) hH ?_
    try simp only [Act.put,aT,aZ,aS]
    refine tk 2 rfl (by kernel_rfl) (fun _ _ _ h => h) rfl (fun w9 hS9 => by go_simp; (try rfl)) hH ?_
    try simp only [Act.put,aT,aZ,aS]
    refine tk 3 rfl (by kernel_rfl) (fun _ _ _ h => h) rfl (fun w9 hS9 => by go_simp; (try rfl)) hH ?_
    try simp only [Act.put,aT,aZ,aS]
    refine tk 4 rfl (by kernel_rfl) (fun _ _ _ h => h) rfl (fun w9 hS9 => by have p0 : w9.cell? ⟨b,m * 9,none⟩ = some (.slice p.a p.l.length p.c) := hS9.1.cell m 0 _ hku (by decide) (by rw [hp]; rfl); have p1 : w9.cell? ⟨b,m * 9 + 1,none⟩ = some (.int .i64 p.r) := hS9.1.cell m 1 _ hku (by decide) (by rw [hp]; rfl); have p2 : w9.cell? ⟨b,m * 9 + 2,none⟩ = some (.bool p.f) := hS9.1.cell m 2 _ hku (by decide) (by rw [hp]; rfl); have p3 : w9.cell? ⟨b,m * 9 + 3,none⟩ = some (.int .i64 p.M) := hS9.1.cell m 3 _ hku (by decide) (by rw [hp]; rfl); have p4 : w9.cell? ⟨b,m * 9 + 4,none⟩ = some (.int .i64 p.S) := hS9.1.cell m 4 _ hku (by decide) (by rw [hp]; rfl); have p5 : w9.cell? ⟨b,m * 9 + 5,none⟩ = some (.int .i64 p.m) := hS9.1.cell m 5 _ hku (by decide) (by rw [hp]; rfl); have p6 : w9.cell? ⟨b,m * 9 + 6,none⟩ = some (.int .i64 p.s) := hS9.1.cell m 6 _ hku (by decide) (by rw [hp]; rfl); have p7 : w9.cell? ⟨b,m * 9 + 7,none⟩ = some (.bool p.t) := hS9.1.cell m 7 _ hku (by decide) (by rw [hp]; rfl); have p8 : w9.cell? ⟨b,m * 9 + 8,none⟩ = some (.int .i64 p.T) := hS9.1.cell m 8 _ hku (by decide) (by rw [hp]; rfl); go_simp; (try rfl)) hH ?_
    try simp only [Act.put,aT,aZ,aS]
    refine tk 5 rfl (by kernel_rfl) (fun _ _ _ h => h) rfl (fun w9 hS9 => by go_simp; (try rfl)) hH ?_
    try simp only [Act.put,aT,aZ,aS]
    refine tk 6 rfl (by kernel_rfl) (fun _ _ _ h => h) rfl (fun w9 hS9 => by go_simp; (try rfl)) hH ?_
    try simp only [Act.put,aT,aZ,aS]
    refine tk 7 rfl (by kernel_rfl) (fun _ _ _ h => h) rfl (fun w9 hS9 => by go_simp; (try rfl)) hH ?_
    try simp only [Act.put,aT,aZ,aS]
    refine tk 8 rfl (by kernel_rfl) (fun _ _ _ h => h) rfl (fun w9 hS9 => by have q0 : w9.cell? ⟨b,h * 9,none⟩ = some (.slice q.a q.l.length q.c) := hS9.1.cell h 0 _ hk0 (by decide) (by rw [hq]; rfl); have q1 : w9.cell? ⟨b,h * 9 + 1,none⟩ = some (.int .i64 q.r) := hS9.1.cell h 1 _ hk0 (by decide) (by rw [hq]; rfl); have q2 : w9.cell? ⟨b,h * 9 + 2,none⟩ = some (.bool q.f) := hS9.1.cell h 2 _ hk0 (by decide) (by rw [hq]; rfl); have q3 : w9.cell? ⟨b,h * 9 + 3,none⟩ = some (.int .i64 q.M) := hS9.1.cell h 3 _ hk0 (by decide) (by rw [hq]; rfl); have q4 : w9.cell? ⟨b,h * 9 + 4,none⟩ = some (.int .i64 q.S) := hS9.1.cell h 4 _ hk0 (by decide) (by rw [hq]; rfl); have q5 : w9.cell? ⟨b,h * 9 + 5,none⟩ = some (.int .i64 q.m) := hS9.1.cell h 5 _ hk0 (by decide) (by rw [hq]; rfl); have q6 : w9.cell? ⟨b,h * 9 + 6,none⟩ = some (.int .i64 q.s) := hS9.1.cell h 6 _ hk0 (by decide) (by rw [hq]; rfl); have q7 : w9.cell? ⟨b,h * 9 + 7,none⟩ = some (.bool q.t) := hS9.1.cell h 7 _ hk0 (by decide) (by rw [hq]; rfl); have q8 : w9.cell? ⟨b,h * 9 + 8,none⟩ = some (.int .i64 q.T) := hS9.1.cell h 8 _ hk0 (by decide) (by rw [hq]; rfl); go_simp; (try rfl)) hH ?_
    try simp only [Act.put,aT,aZ,aS]
    refine wR (rs := [9]) (by kernel_rfl) (by simp) (aR rfl (fun K hK => ?_) aN)
    rw [if_pos (by rfl)]
    go_simp
    go_at_call 56
    (with_reducible refine (C1 _ hH.2).mono ?_)
    rintro e wz ⟨rfl,xz⟩
    refine hK.out _ _ (⟨hH.1.ext xz,hH.2.ext xz hb⟩) (fun hH => ?_)
    clear hK K
    try simp only [aT,aZ,aS]
    refine tk 10 rfl (by kernel_rfl) (fun _ _ _ h => h) rfl (fun w9 hS9 => by go_simp; (try rfl)) hH ?_
    try simp only [Act.put,aT,aZ,aS]
    refine tk 11 rfl (by kernel_rfl) (fun _ _ _ h => h) rfl (fun w9 hS9 => by go_simp; (try rfl)) hH ?_
    try simp only [Act.put,aT,aZ,aS]
    refine wpAnyH_done (by kernel_rfl) ?_ _
    clear hp hq C1 HR' HX' eh ilt
    go_wp2_with fail
    go_roundw
    case rel => exact ⟨h + 1,j,rfl,rfl,by omega,by omega,hj,hgo,hH.1,hH.2⟩
    case measure => simp only [intOf]; omega
  ·have ilt : ¬ (i : Int) < (j : Int) := by omega
   obtain rfl : i = j := by omega
   have HF : Hid (Sw a e d (dnF d m i) ∧ Sd (fun x y => decide (cf x y < 0)) (dnF d m i) a e) := Lib.hid ⟨(by have := dnF_sw d m a e hme2 (m - i) (by omega); rwa [show m - (m - i) = i from by omega] at this),by rw [hme.out]; exact dnF_sorted L d a m i h2 hi hj HQ.out.1 HQ.out.2⟩
   clear HQ
   go_wp2_with fail
   go_loopw [17] (fun vk wr => ∃ k : Nat,vk = .int .i64 k ∧ i ≤ k ∧ k ≤ m ∧ RowE 9 40 PtD.cs b n (dnF d m k) wr ∧ ExtB b w0 wr) (fun vk _ => (intOf vk).toNat)
   case atStart => exact ⟨m,rfl,by omega,Nat.le_refl _,by rw [dnF_start]; exact HR',HX'⟩
   case round =>
    obtain ⟨k0,rfl,hk,hk2,HR2,HX2⟩ := hrel
    clear HR' HX'
    by_cases hlk : i < k0
    ·obtain ⟨k,rfl⟩ : ∃ k,k0 = k + 1 := ⟨k0 - 1,by omega⟩
     have hku : k + 1 < n := by omega
     have hk0 : k < n := by omega
     have st := dnF_step d m k hk2
     obtain ⟨d',hd'⟩ : ∃ d',dnF d m (k + 1) = d' := ⟨_,rfl⟩
     rw [hd'] at HR2 st
     have e2 : (k : Int) + 1 < (n : Int) := by omega
     have e3 : (0 : Int) ≤ (k : Int) + 1 := by omega
     have e4 : (k : Int) < (n : Int) := by omega
     have e5 : (i : Int) < (k : Int) + 1 := by omega
     have e6 : IntKind.i64.wrap (k : Int) = (k : Int) := IntWalk.i64_in _ (by omega)
     have e7 : IntKind.i64.wrap ((k : Int) + 1) = (k : Int) + 1 := IntWalk.i64_in _ (by omega)
     obtain ⟨p,hp⟩ : ∃ p,d' (k + 1) = p := ⟨_,rfl⟩
     obtain ⟨q,hq⟩ : ∃ q,d' k = q := ⟨_,rfl⟩
     have p0 : wr.cell? ⟨b,(k + 1) * 9,none⟩ = some (.slice p.a p.l.length p.c) := HR2.cell (k + 1) 0 _ hku (by decide) (by rw [hp]; rfl)
     have fp0 : wr.frozen? ⟨b,(k + 1) * 9,none⟩ = false := HR2.free _
     have p1 : wr.cell? ⟨b,(k + 1) * 9 + 1,none⟩ = some (.int .i64 p.r) := HR2.cell (k + 1) 1 _ hku (by decide) (by rw [hp]; rfl)
     have fp1 : wr.frozen? ⟨b,(k + 1) * 9 + 1,none⟩ = false := HR2.free _
     have p2 : wr.cell? ⟨b,(k + 1) * 9 + 2,none⟩ = some (.bool p.f) := HR2.cell (k + 1) 2 _ hku (by decide) (by rw [hp]; rfl)
     have fp2 : wr.frozen? ⟨b,(k + 1) * 9 + 2,none⟩ = false := HR2.free _
     have p3 : wr.cell? ⟨b,(k + 1) * 9 + 3,none⟩ = some (.int .i64 p.M) := HR2.cell (k + 1) 3 _ hku (by decide) (by rw [hp]; rfl)
     have fp3 : wr.frozen? ⟨b,(k + 1) * 9 + 3,none⟩ = false := HR2.free _
     have p4 : wr.cell? ⟨b,(k + 1) * 9 + 4,none⟩ = some (.int .i64 p.S) := HR2.cell (k + 1) 4 _ hku (by decide) (by rw [hp]; rfl)
     have fp4 : wr.frozen? ⟨b,(k + 1) * 9 + 4,none⟩ = false := HR2.free _
     have p5 : wr.cell? ⟨b,(k + 1) * 9 + 5,none⟩ = some (.int .i64 p.m) := HR2.cell (k + 1) 5 _ hku (by decide) (by rw [hp]; rfl)
     have fp5 : wr.frozen? ⟨b,(k + 1) * 9 + 5,none⟩ = false := HR2.free _
     have p6 : wr.cell? ⟨b,(k + 1) * 9 + 6,none⟩ = some (.int .i64 p.s) := HR2.cell (k + 1) 6 _ hku (by decide) (by rw [hp]; rfl)
     have fp6 : wr.frozen? ⟨b,(k + 1) * 9 + 6,none⟩ = false := HR2.free _
     have p7 : wr.cell? ⟨b,(k + 1) * 9 + 7,none⟩ = some (.bool p.t) := HR2.cell (k + 1) 7 _ hku (by decide) (by rw [hp]; rfl)
     have fp7 : wr.frozen? ⟨b,(k + 1) * 9 + 7,none⟩ = false := HR2.free _
     have p8 : wr.cell? ⟨b,(k + 1) * 9 + 8,none⟩ = some (.int .i64 p.T) := HR2.cell (k + 1) 8 _ hku (by decide) (by rw [hp]; rfl)
     have fp8 : wr.frozen? ⟨b,(k + 1) * 9 + 8,none⟩ = false := HR2.free _
     have q0 : wr.cell? ⟨b,k * 9,none⟩ = some (.slice q.a q.l.length q.c) := HR2.cell k 0 _ hk0 (by decide) (by rw [hq]; rfl)
     have fq0 : wr.frozen? ⟨b,k * 9,none⟩ = false := HR2.free _
     have q1 : wr.cell? ⟨b,k * 9 + 1,none⟩ = some (.int .i64 q.r) := HR2.cell k 1 _ hk0 (by decide) (by rw [hq]; rfl)
     have fq1 : wr.frozen? ⟨b,k * 9 + 1,none⟩ = false := HR2.free _
     have q2 : wr.cell? ⟨b,k * 9 + 2,none⟩ = some (.bool q.f) := HR2.cell k 2 _ hk0 (by decide) (by rw [hq]; rfl)
     have fq2 : wr.frozen? ⟨b,k * 9 + 2,none⟩ = false := HR2.free _
     have q3 : wr.cell? ⟨b,k * 9 + 3,none⟩ = some (.int .i64 q.M) := HR2.cell k 3 _ hk0 (by decide) (by rw [hq]; rfl)
     have fq3 : wr.frozen? ⟨b,k * 9 + 3,none⟩ = false := HR2.free _
     have q4 : wr.cell? ⟨b,k * 9 + 4,none⟩ = some (.int .i64 q.S) := HR2.cell k 4 _ hk0 (by decide) (by rw [hq]; rfl)
     have fq4 : wr.frozen? ⟨b,k * 9 + 4,none⟩ = false := HR2.free _
     have q5 : wr.cell? ⟨b,k * 9 + 5,none⟩ = some (.int .i64 q.m) := HR2.cell k 5 _ hk0 (by decide) (by rw [hq]; rfl)
     have fq5 : wr.frozen? ⟨b,k * 9 + 5,none⟩ = false := HR2.free _
     have q6 : wr.cell? ⟨b,k * 9 + 6,none⟩ = some (.int .i64 q.s) := HR2.cell k 6 _ hk0 (by decide) (by rw [hq]; rfl)
     have fq6 : wr.frozen? ⟨b,k * 9 + 6,none⟩ = false := HR2.free _
     have q7 : wr.cell? ⟨b,k * 9 + 7,none⟩ = some (.bool q.t) := HR2.cell k 7 _ hk0 (by decide) (by rw [hq]; rfl)
     have fq7 : wr.frozen? ⟨b,k * 9 + 7,none⟩ = false := HR2.free _
     have q8 : wr.cell? ⟨b,k * 9 + 8,none⟩ = some (.int .i64 q.T) := HR2.cell k 8 _ hk0 (by decide) (by rw [hq]; rfl)
     have fq8 : wr.frozen? ⟨b,k * 9 + 8,none⟩ = false := HR2.free _
     have H2 := RowE.swap (cs := PtD.cs) (fun _ => rfl) HR2 (k + 1) k hku hk0
     have X2 := HX2.swap ((k + 1) * 9) (k * 9) (PtD.cs (d' k)) (PtD.cs (d' (k + 1)))
     rw [hp,hq] at H2 X2
     replace H2 := Lib.hid H2
     replace X2 := Lib.hid X2
     clear HR2 HX2
     rw [st] at H2
     clear hd' st hp hq
     go_wp2_with fail
     go_region
     go_wp2_with fail
     go_roundw
     case rel => exact ⟨k,rfl,by omega,by omega,H2.out,X2.out⟩
     case measure => simp only [intOf]; omega
    ·obtain rfl : k0 = i := by omega
     go_wp2_with fail
     (try simp only [Exit.inBlock,Exit.then])
     refine bodyPost_ret (results_none rfl _ _ _) rfl ?_
     exact ⟨rfl,_,HF.out.1,HF.out.2,HR2,HX2⟩
end Go.Proofs.YtjjnmefihdjglaaGreat
