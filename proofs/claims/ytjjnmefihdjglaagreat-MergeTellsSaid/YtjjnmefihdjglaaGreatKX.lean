import Derived.Test.YtjjnmefihdjglaaGreatSrC
import Derived.Deep.DeepCutAuto
set_option maxRecDepth 100000
set_option maxHeartbeats 64000000
set_option linter.all false
namespace Go.Proofs.YtjjnmefihdjglaaGreat
open Go.RowKit
theorem sym3_p (S : PtD → Prop) (cf : PtD → PtD → Int) (L : Lt (fun x y => decide (cf x y < 0))) (b n c : Nat) (d : Nat → PtD) (w0 w : World) (hb : b < w0.heap.size) (hn : n ≤ 1000) (hX : ExtB b w0 w) (hR : RowE 9 40 PtD.cs b n d w) (hS : ∀ i,i < n → S (d i)) (C : ∀ W x y,ExtB b w0 W → S x → S y → Calls Tryz.prog 56 #[x.v,y.v] W fun e w' => e = .returned (.int .i64 (cf x y)) ∧ Ext W w') (N : Nat) (REC : ∀ (a m e : Nat) (d : Nat → PtD) (w : World),e - a < N → a < m → m < e → e ≤ n → ExtB b w0 w → RowE 9 40 PtD.cs b n d w → (∀ i,i < n → S (d i)) → Sd (fun x y => decide (cf x y < 0)) d a m → Sd (fun x y => decide (cf x y < 0)) d m e → Calls Tryz.prog 126 #[.slice (some ⟨b,0,none⟩) n c,.int .i64 a,.int .i64 m,.int .i64 e,.func (.func 56) #[] #[]] w fun z w' => z = .returned (.tuple #[]) ∧ ∃ d',Sw a e d d' ∧ Sd (fun x y => decide (cf x y < 0)) d' a e ∧ RowE 9 40 PtD.cs b n d' w' ∧ ExtB b w0 w') (a m e : Nat) (hN : e - a ≤ N) (ham : a + 1 < m) (hme : m + 1 < e) (he : e ≤ n) (h1 : Sd (fun x y => decide (cf x y < 0)) d a m) (h2 : Sd (fun x y => decide (cf x y < 0)) d m e) :
  Calls Tryz.prog 126 #[.slice (some ⟨b,0,none⟩) n c,.int .i64 a,.int .i64 m,.int .i64 e,.func (.func 56) #[] #[]] w fun z w' => z = .returned (.tuple #[]) ∧ ∃ d',Sw a e d d' ∧ Sd (fun x y => decide (cf x y < 0)) d' a e ∧ RowE 9 40 PtD.cs b n d' w' ∧ ExtB b w0 w' := by
 obtain ⟨ma,hma⟩ : ∃ ma,m - a = ma := ⟨_,rfl⟩
 have em3 : (m : Int) - (a : Int) = (ma : Int) := by omega
 have em4 : IntKind.i64.wrap (ma : Int) = (ma : Int) := IntWalk.i64_in _ (by omega)
 have em5 : ((ma : Int) == 1) = false := by rw [beq_eq_false_iff_ne]; omega
 obtain ⟨me,hme'⟩ : ∃ me,e - m = me := ⟨_,rfl⟩
 have en3 : (e : Int) - (m : Int) = (me : Int) := by omega
 have en4 : IntKind.i64.wrap (me : Int) = (me : Int) := IntWalk.i64_in _ (by omega)
 have en5 : ((me : Int) == 1) = false := by rw [beq_eq_false_iff_ne]; omega
 clear hma hme'
 obtain ⟨mid,hmid⟩ : ∃ mid,(a + e) / 2 = mid := ⟨_,rfl⟩
 have emid : ((a : Int) + (e : Int)) / 2 = (mid : Int) := by omega
 have g1 : a + 1 < mid := by omega
 have g2 : mid + 1 < e := by omega
 have g3 : 2 * mid ≤ a + e := by omega
 have g4 : a + e ≤ 2 * mid + 1 := by omega
 obtain ⟨nn,hnn⟩ : ∃ nn,mid + m = nn := ⟨_,rfl⟩
 have enn : (mid : Int) + (m : Int) = (nn : Int) := by omega
 have wnn : IntKind.i64.wrap (nn : Int) = (nn : Int) := IntWalk.i64_in _ (by omega)
 have g5 : mid + m ≤ nn := by omega
 have g6 : nn ≤ mid + m := by omega
 obtain ⟨pp,hpp⟩ : ∃ pp,nn - 1 = pp := ⟨_,rfl⟩
 have epp : (nn : Int) - 1 = (pp : Int) := by omega
 have wpp : IntKind.i64.wrap (pp : Int) = (pp : Int) := IntWalk.i64_in _ (by omega)
 have g7 : pp + 1 ≤ nn := by omega
 have g8 : nn ≤ pp + 1 := by omega
 obtain ⟨s0,r0,hsr⟩ : ∃ s0 r0 : Nat,Hid ((mid < m ∧ s0 + e = nn ∧ r0 = mid) ∨ (m ≤ mid ∧ s0 = a ∧ r0 = m)) := by
  by_cases h : mid < m
  ·exact ⟨nn - e,mid,Lib.hid (.inl ⟨h,by omega,rfl⟩)⟩
  ·exact ⟨a,m,Lib.hid (.inr ⟨by omega,rfl,rfl⟩)⟩
 have g9 : a ≤ s0 ∧ s0 ≤ r0 ∧ r0 ≤ m ∧ r0 + m ≤ nn ∧ nn ≤ s0 + e := by have := hsr.out; omega
 obtain ⟨g9,g10,g11,g12,g13⟩ := g9
 clear hnn hpp hmid
 go_enter Tryz.func126,Tryz.ntmps126
 go_upto_if 140 with fail
 go_cut [20,21] (fun u v wx => u = .int .i64 s0 ∧ v = .int .i64 r0 ∧ RowE 9 40 PtD.cs b n d wx ∧ ExtB b w0 wx)
 case first =>
  as_aux_lemma =>
  rcases hsr.out with ⟨k1,k2,k3⟩ | ⟨k1,k2,k3⟩
  ·have k4 : (mid : Int) < (m : Int) := by omega
   have k5 : (nn : Int) - (e : Int) = (s0 : Int) := by omega
   have k6 : IntKind.i64.wrap (s0 : Int) = (s0 : Int) := IntWalk.i64_in _ (by omega)
   replace k3 := Lib.hid k3
   clear k2
   go_wp2_with fail
   go_meet
   case rel => exact ⟨rfl,by rw [k3.out],hR,hX⟩
  ·have k4 : ¬ (mid : Int) < (m : Int) := by omega
   replace k3 := Lib.hid k3
   replace k2 := Lib.hid k2
   go_wp2_with fail
   go_meet
   case rel => exact ⟨by rw [k2.out],by rw [k3.out],hR,hX⟩
 case rest =>
 as_aux_lemma =>
 obtain ⟨rfl,rfl,HR0,HX0⟩ := hcut
 clear hR hX
 go_wp2_with fail
 go_loopw [20,21] (fun vi vj wr => ∃ (i j : Nat),vi = .int .i64 i ∧ vj = .int .i64 j ∧ s0 ≤ i ∧ i ≤ j ∧ j ≤ r0 ∧ Hid ((i = s0 ∨ (fun x y => decide (cf x y < 0)) (d (nn - i)) (d (i - 1)) = false) ∧ (j = r0 ∨ (fun x y => decide (cf x y < 0)) (d (nn - j - 1)) (d j) = true)) ∧ RowE 9 40 PtD.cs b n d wr ∧ ExtB b w0 wr) (fun vi vj _ => (intOf vj).toNat - (intOf vi).toNat)
 case atStart => exact ⟨s0,r0,rfl,rfl,by omega,by omega,by omega,Lib.hid ⟨Or.inl rfl,Or.inl rfl⟩,HR0,HX0⟩
 case round =>
  as_aux_lemma =>
  obtain ⟨i,j,rfl,rfl,hi,hij,hj,HQ,HR',HX'⟩ := hrel
  clear HR0 HX0
  by_cases hlt : i < j
  ·have ilt : (i : Int) < (j : Int) := by omega
   obtain ⟨h,hh⟩ : ∃ h,(i + j) / 2 = h := ⟨_,rfl⟩
   have eh : ((i : Int) + (j : Int)) / 2 = (h : Int) := by omega
   have hb1 : i ≤ h := by omega
   have hb2 : h < j := by omega
   obtain ⟨x,hx⟩ : ∃ x,pp - h = x := ⟨_,rfl⟩
   have ex : (pp : Int) - (h : Int) = (x : Int) := by omega
   have hb3 : x + 1 = nn - h := by omega
   replace hb3 := Lib.hid hb3
   clear hx
   have hku : x < n := by omega
   have hk0 : h < n := by omega
   obtain ⟨p,hp⟩ : ∃ p,d x = p := ⟨_,rfl⟩
   obtain ⟨q,hq⟩ : ∃ q,d h = q := ⟨_,rfl⟩
   have C1 := fun W h => C W p q h (hp ▸ hS _ hku) (hq ▸ hS _ hk0)
   obtain ⟨cv,hcv⟩ : ∃ cv,cf p q = cv := ⟨_,rfl⟩
   rw [hcv] at C1
   unfold PtD.v ptV at C1
   have b1 : (x : Int) < (n : Int) := by omega
   have b2 : (h : Int) < (n : Int) := by omega
   have b3 : IntKind.i64.wrap (x : Int) = (x : Int) := IntWalk.i64_in _ (by omega)
   have b4 : IntKind.i64.wrap (h : Int) = (h : Int) := IntWalk.i64_in _ (by omega)
   have b5 : IntKind.i64.wrap ((x : Int) + 1) = (x : Int) + 1 := IntWalk.i64_in _ (by omega)
   have b6 : IntKind.i64.wrap ((h : Int) + 1) = (h : Int) + 1 := IntWalk.i64_in _ (by omega)
   by_cases h0 : cv < 0
   ·as_aux_lemma =>
    have hgo : Hid ((i = s0 ∨ (fun x y => decide (cf x y < 0)) (d (nn - i)) (d (i - 1)) = false) ∧ (h = r0 ∨ (fun x y => decide (cf x y < 0)) (d (nn - h - 1)) (d h) = true)) := Lib.hid ⟨HQ.out.1,Or.inr (by rw [← hb3.out,Nat.add_sub_cancel,hp,hq]; show decide (cf p q < 0) = true; rw [hcv]; exact decide_eq_true h0)⟩
    have hd : (!decide (cv < 0)) = false := by rw [decide_eq_true h0]; rfl
    clear HQ hcv hh
    go_wp2_with fail
    refine wp_region_held_drew (S := (fun W => RowE 9 40 PtD.cs b n d W ∧ ExtB b w0 W)) (by kernel_rfl) (⟨HR'.drew,HX'.drew⟩) (fun hH => ?_)
    refine tk 0 rfl (by kernel_rfl) (fun _ _ _ h => h) rfl (fun w9 hS9 => by go_simp; (try rfl)) hH ?_
    try simp only [Act.put,aT,aZ,aS]
    refine tk 1 rfl (by kernel_rfl) (fun _ _ _ h => h) rfl (fun w9 hS9 => by go_simp; (try rfl)) hH ?_
    try simp only [Act.put,aT,aZ,aS]
    refine tk 2 rfl (by kernel_rfl) (fun _ _ _ h => h) rfl (fun w9 hS9 => by go_simp; (try rfl)) hH ?_
    try simp only [Act.put,aT,aZ,aS]
    refine tk 3 rfl (by kernel_rfl) (fun _ _ _ h => h) rfl (fun w9 hS9 => by go_simp; (try rfl)) hH ?_
    try simp only [Act.put,aT,aZ,aS]
    refine tk 4 rfl (by kernel_rfl) (fun _ _ _ h => h) rfl (fun w9 hS9 => by go_simp; (try rfl)) hH ?_
    try simp only [Act.put,aT,aZ,aS]
    refine tk 5 rfl (by kernel_rfl) (fun _ _ _ h => h) rfl (fun w9 hS9 => by go_simp; (try rfl)) hH ?_
    try simp only [Act.put,aT,aZ,aS]
    refine tk 6 rfl (by kernel_rfl) (fun _ _ _ h => h) rfl (fun w9 hS9 => by have p0 : w9.cell? ⟨b,x * 9,none⟩ = some (.slice p.a p.l.length p.c) := hS9.1.cell x 0 _ hku (by decide) (by rw [hp]; rfl); have p1 : w9.cell? ⟨b,x * 9 + 1,none⟩ = some (.int .i64 p.r) := hS9.1.cell x 1 _ hku (by decide) (by rw [hp]; rfl); have p2 : w9.cell? ⟨b,x * 9 + 2,none⟩ = some (.bool p.f) := hS9.1.cell x 2 _ hku (by decide) (by rw [hp]; rfl); have p3 : w9.cell? ⟨b,x * 9 + 3,none⟩ = some (.int .i64 p.M) := hS9.1.cell x 3 _ hku (by decide) (by rw [hp]; rfl); have p4 : w9.cell? ⟨b,x * 9 + 4,none⟩ = some (.int .i64 p.S) := hS9.1.cell x 4 _ hku (by decide) (by rw [hp]; rfl); have p5 : w9.cell? ⟨b,x * 9 + 5,none⟩ = some (.int .i64 p.m) := hS9.1.cell x 5 _ hku (by decide) (by rw [hp]; rfl); have p6 : w9.cell? ⟨b,x * 9 + 6,none⟩ = some (.int .i64 p.s) := hS9.1.cell x 6 _ hku (by decide) (by rw [hp]; rfl); have p7 : w9.cell? ⟨b,x * 9 + 7,none⟩ = some (.bool p.t) := hS9.1.cell x 7 _ hku (by decide) (by rw [hp]; rfl); have p8 : w9.cell? ⟨b,x * 9 + 8,none⟩ = some (.int .i64 p.T) := hS9.1.cell x 8 _ hku (by decide) (by rw [hp]; rfl); go_simp; (try rfl)) hH ?_
    try simp only [Act.put,aT,aZ,aS]
    refine tk 7 rfl (by kernel_rfl) (fun _ _ _ h => h) rfl (fun w9 hS9 => by go_simp; (try rfl)) hH ?_
    try simp only [Act.put,aT,aZ,aS]
    refine tk 8 rfl (by kernel_rfl) (fun _ _ _ h => h) rfl (fun w9 hS9 => by go_simp; (try rfl)) hH ?_
    try simp only [Act.put,aT,aZ,aS]
    refine tk 9 rfl (by kernel_rfl) (fun _ _ _ h => h) rfl (fun w9 hS9 => by go_simp; (try rfl)) hH ?_
    try simp only [Act.put,aT,aZ,aS]
    refine tk 10 rfl (by kernel_rfl) (fun _ _ _ h => h) rfl (fun w9 hS9 => by have q0 : w9.cell? ⟨b,h * 9,none⟩ = some (.slice q.a q.l.length q.c) := hS9.1.cell h 0 _ hk0 (by decide) (by rw [hq]; rfl); have q1 : w9.cell? ⟨b,h * 9 + 1,none⟩ = some (.int .i64 q.r) := hS9.1.cell h 1 _ hk0 (by decide) (by rw [hq]; rfl); have q2 : w9.cell? ⟨b,h * 9 + 2,none⟩ = some (.bool q.f) := hS9.1.cell h 2 _ hk0 (by decide) (by rw [hq]; rfl); have q3 : w9.cell? ⟨b,h * 9 + 3,none⟩ = some (.int .i64 q.M) := hS9.1.cell h 3 _ hk0 (by decide) (by rw [hq]; rfl); have q4 : w9.cell? ⟨b,h * 9 + 4,none⟩ = some (.int .i64 q.S) := hS9.1.cell h 4 _ hk0 (by decide) (by rw [hq]; rfl); have q5 : w9.cell? ⟨b,h * 9 + 5,none⟩ = some (.int .i64 q.m) := hS9.1.cell h 5 _ hk0 (by decide) (by rw [hq]; rfl); have q6 : w9.cell? ⟨b,h * 9 + 6,none⟩ = some (.int .i64 q.s) := hS9.1.cell h 6 _ hk0 (by decide) (by rw [hq]; rfl); have q7 : w9.cell? ⟨b,h * 9 + 7,none⟩ = some (.bool q.t) := hS9.1.cell h 7 _ hk0 (by decide) (by rw [hq]; rfl); have q8 : w9.cell? ⟨b,h * 9 + 8,none⟩ = some (.int .i64 q.T) := hS9.1.cell h 8 _ hk0 (by decide) (by rw [hq]; rfl); go_simp; (try rfl)) hH ?_
    try simp only [Act.put,aT,aZ,aS]
    refine wR (rs := [11]) (by kernel_rfl) (by simp) (aR rfl (fun K hK => ?_) aN)
    rw [if_pos (by rfl)]
    go_simp
    go_at_call 56
    (with_reducible refine (C1 _ hH.2).mono ?_)
    rintro e wz ⟨rfl,xz⟩
    refine hK.out _ _ (⟨hH.1.ext xz,hH.2.ext xz hb⟩) (fun hH => ?_)
    clear hK K
    try simp only [aT,aZ,aS]
    refine tk 12 rfl (by kernel_rfl) (fun _ _ _ h => h) rfl (fun w9 hS9 => by go_simp; (try rfl)) hH ?_
    try simp only [Act.put,aT,aZ,aS]
    refine tk 13 rfl (by kernel_rfl) (fun _ _ _ h => h) rfl (fun w9 hS9 => by go_simp; (try rfl)) hH ?_
    try simp only [Act.put,aT,aZ,aS]
    refine wpAnyH_done (by kernel_rfl) ?_ _
    clear hp hq C1 HR' HX' eh ilt ex
    go_wp2_with fail
    go_roundw
    case rel => exact ⟨i,h,rfl,rfl,by omega,by omega,by omega,hgo,hH.1,hH.2⟩
    case measure => simp only [intOf]; omega
   ·as_aux_lemma =>
    have hgo : Hid ((h + 1 = s0 ∨ (fun x y => decide (cf x y < 0)) (d (nn - (h + 1))) (d (h + 1 - 1)) = false) ∧ (j = r0 ∨ (fun x y => decide (cf x y < 0)) (d (nn - j - 1)) (d j) = true)) := Lib.hid ⟨Or.inr (by rw [← Nat.sub_sub,← hb3.out,Nat.add_sub_cancel,Nat.add_sub_cancel,hp,hq]; show decide (cf p q < 0) = false; rw [hcv]; exact decide_eq_false h0),HQ.out.2⟩
    have hd : (!decide (cv < 0)) = true := by rw [decide_eq_false h0]; rfl
    clear HQ hcv hh
    go_wp2_with fail
    refine wp_region_held_drew (S := (fun W => RowE 9 40 PtD.cs b n d W ∧ ExtB b w0 W)) (by kernel_rfl) (⟨HR'.drew,HX'.drew⟩) (fun hH => ?_)
    refine tk 0 rfl (by kernel_rfl) (fun _ _ _ h => h) rfl (fun w9 hS9 => by go_simp; (try rfl)) hH ?_
    try simp only [Act.put,aT,aZ,aS]
    refine tk 1 rfl (by kernel_rfl) (fun _ _ _ h => h) rfl (fun w9 hS9 => by go_simp; (try rfl)) hH ?_
    try simp only [Act.put,aT,aZ,aS]
    refine tk 2 rfl (by kernel_rfl) (fun _ _ _ h => h) rfl (fun w9 hS9 => by go_simp; (try rfl)) hH ?_
    try simp only [Act.put,aT,aZ,aS]
    refine tk 3 rfl (by kernel_rfl) (fun _ _ _ h => h) rfl (fun w9 hS9 => by go_simp; (try rfl)) hH ?_
    try simp only [Act.put,aT,aZ,aS]
    refine tk 4 rfl (by kernel_rfl) (fun _ _ _ h => h) rfl (fun w9 hS9 => by go_simp; (try rfl)) hH ?_
    try simp only [Act.put,aT,aZ,aS]
    refine tk 5 rfl (by kernel_rfl) (fun _ _ _ h => h) rfl (fun w9 hS9 => by go_simp; (try rfl)) hH ?_
    try simp only [Act.put,aT,aZ,aS]
    refine tk 6 rfl (by kernel_rfl) (fun _ _ _ h => h) rfl (fun w9 hS9 => by have p0 : w9.cell? ⟨b,x * 9,none⟩ = some (.slice p.a p.l.length p.c) := hS9.1.cell x 0 _ hku (by decide) (by rw [hp]; rfl); have p1 : w9.cell? ⟨b,x * 9 + 1,none⟩ = some (.int .i64 p.r) := hS9.1.cell x 1 _ hku (by decide) (by rw [hp]; rfl); have p2 : w9.cell? ⟨b,x * 9 + 2,none⟩ = some (.bool p.f) := hS9.1.cell x 2 _ hku (by decide) (by rw [hp]; rfl); have p3 : w9.cell? ⟨b,x * 9 + 3,none⟩ = some (.int .i64 p.M) := hS9.1.cell x 3 _ hku (by decide) (by rw [hp]; rfl); have p4 : w9.cell? ⟨b,x * 9 + 4,none⟩ = some (.int .i64 p.S) := hS9.1.cell x 4 _ hku (by decide) (by rw [hp]; rfl); have p5 : w9.cell? ⟨b,x * 9 + 5,none⟩ = some (.int .i64 p.m) := hS9.1.cell x 5 _ hku (by decide) (by rw [hp]; rfl); have p6 : w9.cell? ⟨b,x * 9 + 6,none⟩ = some (.int .i64 p.s) := hS9.1.cell x 6 _ hku (by decide) (by rw [hp]; rfl); have p7 : w9.cell? ⟨b,x * 9 + 7,none⟩ = some (.bool p.t) := hS9.1.cell x 7 _ hku (by decide) (by rw [hp]; rfl); have p8 : w9.cell? ⟨b,x * 9 + 8,none⟩ = some (.int .i64 p.T) := hS9.1.cell x 8 _ hku (by decide) (by rw [hp]; rfl); go_simp; (try rfl)) hH ?_
    try simp only [Act.put,aT,aZ,aS]
    refine tk 7 rfl (by kernel_rfl) (fun _ _ _ h => h) rfl (fun w9 hS9 => by go_simp; (try rfl)) hH ?_
    try simp only [Act.put,aT,aZ,aS]
    refine tk 8 rfl (by kernel_rfl) (fun _ _ _ h => h) rfl (fun w9 hS9 => by go_simp; (try rfl)) hH ?_
    try simp only [Act.put,aT,aZ,aS]
    refine tk 9 rfl (by kernel_rfl) (fun _ _ _ h => h) rfl (fun w9 hS9 => by go_simp; (try rfl)) hH ?_
    try simp only [Act.put,aT,aZ,aS]
    refine tk 10 rfl (by kernel_rfl) (fun _ _ _ h => h) rfl (fun w9 hS9 => by have q0 : w9.cell? ⟨b,h * 9,none⟩ = some (.slice q.a q.l.length q.c) := hS9.1.cell h 0 _ hk0 (by decide) (by rw [hq]; rfl); have q1 : w9.cell? ⟨b,h * 9 + 1,none⟩ = some (.int .i64 q.r) := hS9.1.cell h 1 _ hk0 (by decide) (by rw [hq]; rfl); have q2 : w9.cell? ⟨b,h * 9 + 2,none⟩ = some (.bool q.f) := hS9.1.cell h 2 _ hk0 (by decide) (by rw [hq]; rfl); have q3 : w9.cell? ⟨b,h * 9 + 3,none⟩ = some (.int .i64 q.M) := hS9.1.cell h 3 _ hk0 (by decide) (by rw [hq]; rfl); have q4 : w9.cell? ⟨b,h * 9 + 4,none⟩ = some (.int .i64 q.S) := hS9.1.cell h 4 _ hk0 (by decide) (by rw [hq]; rfl); have q5 : w9.cell? ⟨b,h * 9 + 5,none⟩ = some (.int .i64 q.m) := hS9.1.cell h 5 _ hk0 (by decide) (by rw [hq]; rfl); have q6 : w9.cell? ⟨b,h * 9 + 6,none⟩ = some (.int .i64 q.s) := hS9.1.cell h 6 _ hk0 (by decide) (by rw [hq]; rfl); have q7 : w9.cell? ⟨b,h * 9 + 7,none⟩ = some (.bool q.t) := hS9.1.cell h 7 _ hk0 (by decide) (by rw [hq]; rfl); have q8 : w9.cell? ⟨b,h * 9 + 8,none⟩ = some (.int .i64 q.T) := hS9.1.cell h 8 _ hk0 (by decide) (by rw [hq]; rfl); go_simp; (try rfl)) hH ?_
    try simp only [Act.put,aT,aZ,aS]
    refine wR (rs := [11]) (by kernel_rfl) (by simp) (aR rfl (fun K hK => ?_) aN)
    rw [if_pos (by rfl)]
    go_simp
    go_at_call 56
    (with_reducible refine (C1 _ hH.2).mono ?_)
    rintro e wz ⟨rfl,xz⟩
    refine hK.out _ _ (⟨hH.1.ext xz,hH.2.ext xz hb⟩) (fun hH => ?_)
    clear hK K
    try simp only [aT,aZ,aS]
    refine tk 12 rfl (by kernel_rfl) (fun _ _ _ h => h) rfl (fun w9 hS9 => by go_simp; (try rfl)) hH ?_
    try simp only [Act.put,aT,aZ,aS]
    refine tk 13 rfl (by kernel_rfl) (fun _ _ _ h => h) rfl (fun w9 hS9 => by go_simp; (try rfl)) hH ?_
    try simp only [Act.put,aT,aZ,aS]
    refine wpAnyH_done (by kernel_rfl) ?_ _
    clear hp hq C1 HR' HX' eh ilt ex
    go_wp2_with fail
    go_roundw
    case rel => exact ⟨h + 1,j,rfl,rfl,by omega,by omega,hj,hgo,hH.1,hH.2⟩
    case measure => simp only [intOf]; omega
  ·have ilt : ¬ (i : Int) < (j : Int) := by omega
   obtain rfl : i = j := by omega
   obtain ⟨en,hen⟩ : ∃ en,nn - i = en := ⟨_,rfl⟩
   have een : (nn : Int) - (i : Int) = (en : Int) := by omega
   have wen : IntKind.i64.wrap (en : Int) = (en : Int) := IntWalk.i64_in _ (by omega)
   have HH := rotF_halves L d a m e i en mid h1 h2 (by omega) (by omega) (by omega) (by omega) (by omega)
    (by rcases hsr.out with ⟨k1,k2,k3⟩ | ⟨k1,k2,k3⟩
        ·rcases HQ.out.1 with q | q
         ·exact .inr (.inl (by omega))
         ·exact .inr (.inr (by rw [← hen]; exact q))
        ·rcases HQ.out.1 with q | q
         ·exact .inl (by omega)
         ·exact .inr (.inr (by rw [← hen]; exact q)))
    (by rcases hsr.out with ⟨k1,k2,k3⟩ | ⟨k1,k2,k3⟩
        ·rcases HQ.out.2 with q | q
         ·exact .inr (.inl (by omega))
         ·exact .inr (.inr (by rw [← hen]; exact q))
        ·rcases HQ.out.2 with q | q
         ·exact .inl (by omega)
         ·exact .inr (.inr (by rw [← hen]; exact q)))
   have l1 : i ≤ m := by omega
   have l2 : m ≤ en := by omega
   have l3 : en ≤ e := by omega
   have l4 : i ≤ mid := by omega
   have l5 : mid ≤ en := by omega
   have l6 : a ≤ i := by omega
   have ROT := fun (hi : i < m) (he2 : m < en) => rot_p b n c i m en d w0 wr (.func (.func 56) #[] #[]) hb hn hi he2 (by omega) HX' HR'
   have NOROT : ¬ (i < m ∧ m < en) → rotF d i m en = d := fun h => by
    by_cases q : i < m
    ·obtain rfl : en = m := by omega
     exact rotF_none_right d i en
    ·obtain rfl : i = m := by omega
     exact rotF_none_left d i en l2
   replace NOROT := Lib.hid NOROT
   obtain ⟨f,hf⟩ : ∃ f,rotF d i m en = f := ⟨_,rfl⟩
   rw [hf] at ROT HH NOROT
   replace HH := Lib.hid HH
   clear HQ hf hen
   go_upto_region 39 with fail
   go_cut [185] (fun u wx => u = .bool (decide (i < m ∧ m < en)) ∧ wx = wr)
   case first =>
    as_aux_lemma =>
    by_cases q : i < m
    ·have q1 : (i : Int) < (m : Int) := by omega
     go_wp2_with fail
     go_meet
     case rel => exact ⟨vB (decide_eq_decide.2 (by omega)),rfl⟩
    ·have q1 : ¬ (i : Int) < (m : Int) := by omega
     go_wp2_with fail
     go_meet
     case rel => exact ⟨vB (decide_eq_false (by omega)).symm,rfl⟩
   case rest =>
   as_aux_lemma =>
   obtain ⟨rfl,hwx⟩ := hcut
   subst hwx
   go_upto_if 185 with fail
   go_cut [] (fun wx => RowE 9 40 PtD.cs b n f wx ∧ ExtB b w0 wx ∧ Sw a e d f)
   case first =>
    as_aux_lemma =>
    by_cases hrot : i < m ∧ m < en
    ·have C0 := ROT hrot.1 hrot.2
     have k1 : decide (i < m ∧ m < en) = true := decide_eq_true hrot
     go_wp2_with fail
     (with_reducible refine C0.mono ?_)
     rintro z w1 ⟨rfl,H3,H4,H5⟩
     go_wp2_with fail
     go_meet
     case rel => exact ⟨H3,H5,H4.mono (by omega) (by omega)⟩
    ·have k1 : decide (i < m ∧ m < en) = false := decide_eq_false hrot
     have k2 := NOROT.out hrot
     go_wp2_with fail
     go_meet
     case rel => exact ⟨by rw [k2]; exact HR',HX',by rw [k2]; exact .refl⟩
   case rest =>
   as_aux_lemma =>
   obtain ⟨HR2,HX2,SW1⟩ := hcut
   clear HR' HX' ROT NOROT
   have RC1 := fun (h1 : a < i) (h2 : i < mid) => REC a i mid f wc (by omega) h1 h2 (by omega) HX2 HR2 (SW1.all he hS) HH.out.1 HH.out.2.1
   replace SW1 := Lib.hid SW1
   go_upto_region 41 with fail
   go_cut [199] (fun u wx => u = .bool (decide (a < i ∧ i < mid)) ∧ wx = wc)
   case first =>
    as_aux_lemma =>
    by_cases q : a < i
    ·have q1 : (a : Int) < (i : Int) := by omega
     go_wp2_with fail
     go_meet
     case rel => exact ⟨vB (decide_eq_decide.2 (by omega)),rfl⟩
    ·have q1 : ¬ (a : Int) < (i : Int) := by omega
     go_wp2_with fail
     go_meet
     case rel => exact ⟨vB (decide_eq_false (by omega)).symm,rfl⟩
   case rest =>
   as_aux_lemma =>
   obtain ⟨rfl,hwx⟩ := hcut
   subst hwx
   go_upto_if 199 with fail
   go_cut [] (fun wx => ∃ g,Sw a mid f g ∧ Sd (fun x y => decide (cf x y < 0)) g a mid ∧ RowE 9 40 PtD.cs b n g wx ∧ ExtB b w0 wx)
   case first =>
    as_aux_lemma =>
    by_cases hrc : a < i ∧ i < mid
    ·have C0 := RC1 hrc.1 hrc.2
     have k1 : decide (a < i ∧ i < mid) = true := decide_eq_true hrc
     clear RC1
     go_wp2_with fail
     (with_reducible refine C0.mono ?_)
     rintro z w1 ⟨rfl,g,k2,k3,k4,k5⟩
     go_wp2_with fail
     go_meet
     case rel => exact ⟨g,k2,k3,k4,k5⟩
    ·have k1 : decide (a < i ∧ i < mid) = false := decide_eq_false hrc
     have k2 : Sd (fun x y => decide (cf x y < 0)) f a mid := by
      by_cases q : a < i
      ·obtain rfl : i = mid := by omega
       exact HH.out.1
      ·obtain rfl : a = i := by omega
       exact HH.out.2.1
     replace k2 := Lib.hid k2
     clear RC1
     go_wp2_with fail
     go_meet
     case rel => exact ⟨f,.refl,k2.out,HR2,HX2⟩
   case rest =>
   as_aux_lemma =>
   obtain ⟨g,G1,G2,HR3,HX3⟩ := hcut
   clear HR2 HX2 RC1
   have SG := SW1.out.trans (G1.mono (Nat.le_refl _) (by omega : mid ≤ e))
   have s3 := HH.out.2.2.1.congr (fun x h1 _ => G1.out x (.inr h1))
   have s4 := HH.out.2.2.2.1.congr (fun x h1 _ => G1.out x (.inr (by omega)))
   have RC2 := fun (h1 : mid < en) (h2 : en < e) w1 hx hr => REC mid en e g w1 (by omega) h1 h2 (by omega) hx hr (SG.all he hS) s3 s4
   have FIN : ∀ h,Sw mid e g h → Sd (fun x y => decide (cf x y < 0)) h mid e → Hid (Sw a e d h ∧ Sd (fun x y => decide (cf x y < 0)) h a e) := fun h k1 k2 => Lib.hid ⟨SG.trans (k1.mono (by omega) (Nat.le_refl _)),halves_sorted f g h a mid e G1 k1 G2 k2 HH.out.2.2.2.2⟩
   replace s3 := Lib.hid s3
   replace s4 := Lib.hid s4
   clear SG G1 G2 HH SW1
   go_upto_region 43 with fail
   go_cut [213] (fun u wx => u = .bool (decide (mid < en ∧ en < e)) ∧ wx = wc)
   case first =>
    as_aux_lemma =>
    by_cases q : mid < en
    ·have q1 : (mid : Int) < (en : Int) := by omega
     go_wp2_with fail
     go_meet
     case rel => exact ⟨vB (decide_eq_decide.2 (by omega)),rfl⟩
    ·have q1 : ¬ (mid : Int) < (en : Int) := by omega
     go_wp2_with fail
     go_meet
     case rel => exact ⟨vB (decide_eq_false (by omega)).symm,rfl⟩
   case rest =>
   as_aux_lemma =>
   obtain ⟨rfl,hwx⟩ := hcut
   subst hwx
   by_cases hrc : mid < en ∧ en < e
   ·have C0 := RC2 hrc.1 hrc.2 wc HX3 HR3
    have k1 : decide (mid < en ∧ en < e) = true := decide_eq_true hrc
    clear RC2
    go_wp2_with fail
    (with_reducible refine C0.mono ?_)
    rintro z w1 ⟨rfl,h,k2,k3,k4,k5⟩
    have FF := FIN h k2 k3
    clear k2 k3 FIN
    go_wp2_with fail
    go_end0
    exact ⟨rfl,h,FF.out.1,FF.out.2,k4,k5⟩
   ·have k1 : decide (mid < en ∧ en < e) = false := decide_eq_false hrc
    have k2 : Sd (fun x y => decide (cf x y < 0)) g mid e := by
     by_cases q : mid < en
     ·obtain rfl : en = e := by omega
      exact s3.out
     ·obtain rfl : mid = en := by omega
      exact s4.out
    have FF := FIN g .refl k2
    clear RC2 FIN k2
    go_wp2_with fail
    go_end0
    exact ⟨rfl,g,FF.out.1,FF.out.2,HR3,HX3⟩
theorem sym_p (S : PtD → Prop) (cf : PtD → PtD → Int) (L : Lt (fun x y => decide (cf x y < 0))) (b n c : Nat) (w0 : World) (hb : b < w0.heap.size) (hn : n ≤ 1000) (C : ∀ W x y,ExtB b w0 W → S x → S y → Calls Tryz.prog 56 #[x.v,y.v] W fun e w' => e = .returned (.int .i64 (cf x y)) ∧ Ext W w') :
  ∀ (N a m e : Nat) (d : Nat → PtD) (w : World),e - a < N → a < m → m < e → e ≤ n → ExtB b w0 w → RowE 9 40 PtD.cs b n d w → (∀ i,i < n → S (d i)) → Sd (fun x y => decide (cf x y < 0)) d a m → Sd (fun x y => decide (cf x y < 0)) d m e → Calls Tryz.prog 126 #[.slice (some ⟨b,0,none⟩) n c,.int .i64 a,.int .i64 m,.int .i64 e,.func (.func 56) #[] #[]] w fun z w' => z = .returned (.tuple #[]) ∧ ∃ d',Sw a e d d' ∧ Sd (fun x y => decide (cf x y < 0)) d' a e ∧ RowE 9 40 PtD.cs b n d' w' ∧ ExtB b w0 w' := by
 intro N
 induction N with
 | zero => intro a m e d w h; omega
 | succ N ih =>
   intro a m e d w hN ham hme he hX hR hS h1 h2
   by_cases q1 : m = a + 1
   ·exact sym1_p S cf L b n c d w0 w hb hn hX hR hS C a m e q1 hme he h2
   ·by_cases q2 : e = m + 1
    ·exact sym2_p S cf L b n c d w0 w hb hn hX hR hS C a m e (by omega) q2 he h1
    ·exact sym3_p S cf L b n c d w0 w hb hn hX hR hS C N ih a m e (by omega) (by omega) (by omega) he h1 h2
theorem stable_p (S : PtD → Prop) (cf : PtD → PtD → Int) (L : Lt (fun x y => decide (cf x y < 0))) (b n c : Nat) (d : Nat → PtD) (w0 w : World) (hb : b < w0.heap.size) (hn : n ≤ 1000) (hX : ExtB b w0 w) (hR : RowE 9 40 PtD.cs b n d w) (hS : ∀ i,i < n → S (d i)) (C : ∀ W x y,ExtB b w0 W → S x → S y → Calls Tryz.prog 56 #[x.v,y.v] W fun e w' => e = .returned (.int .i64 (cf x y)) ∧ Ext W w') :
  Calls Tryz.prog 102 #[.slice (some ⟨b,0,none⟩) n c,.int .i64 n,.func (.func 56) #[] #[]] w fun z w' => z = .returned (.tuple #[]) ∧ ∃ d',Sw 0 n d d' ∧ Sd (fun x y => decide (cf x y < 0)) d' 0 n ∧ RowE 9 40 PtD.cs b n d' w' ∧ ExtB b w0 w' := by
 have INS := fun (a e : Nat) (d : Nat → PtD) (w : World) hX hR hS (h1 : a ≤ e) (h2 : e ≤ n) => ins_p S cf L b n c d w0 w hb hn hX hR hS C a e h1 h2
 have SYM := fun (a m e : Nat) (d : Nat → PtD) (w : World) (h1 : a < m) (h2 : m < e) (h3 : e ≤ n) hX hR hS s1 s2 => sym_p S cf L b n c w0 hb hn C (e - a + 1) a m e d w (Nat.lt_succ_self _) h1 h2 h3 hX hR hS s1 s2
 go_enter Tryz.func102,Tryz.ntmps102
 go_wp2_with fail
 go_loopw [7,8] (fun va vb wr => ∃ (k : Nat) (a e : Nat) (d1 : Nat → PtD),va = .int .i64 a ∧ vb = .int .i64 e ∧ Hid (a = k * 20) ∧ e ≤ a + 20 ∧ a + 20 ≤ e ∧ a ≤ n ∧ Hid (Sw 0 n d d1 ∧ Bl (fun x y => decide (cf x y < 0)) d1 20 0 (k * 20)) ∧ RowE 9 40 PtD.cs b n d1 wr ∧ ExtB b w0 wr) (fun va vb _ => n - (intOf va).toNat)
 case atStart => exact ⟨0,0,20,d,rfl,rfl,Lib.hid rfl,by omega,by omega,by omega,Lib.hid ⟨.refl,fun i j _ _ h _ => by omega⟩,hR,hX⟩
 case round =>
  as_aux_lemma =>
  obtain ⟨k,a,e,d1,rfl,rfl,ha,e1,e2,e3,HQ,HR1,HX1⟩ := hrel
  clear hR hX
  by_cases hlt : e ≤ n
  ·have ilt : (e : Int) ≤ (n : Int) := by omega
   have C0 := INS a e d1 wr HX1 HR1 (HQ.out.1.all (Nat.le_refl _) hS) (by omega) hlt
   obtain ⟨e',he'⟩ : ∃ e',e + 20 = e' := ⟨_,rfl⟩
   have ee : (e : Int) + 20 = (e' : Int) := by omega
   have we : IntKind.i64.wrap (e' : Int) = (e' : Int) := IntWalk.i64_in _ (by omega)
   have l1 : e' ≤ e + 20 := by omega
   have l2 : e + 20 ≤ e' := by omega
   have hgo : ∀ d2,Sw a e d1 d2 → Sd (fun x y => decide (cf x y < 0)) d2 a e → Hid (Sw 0 n d d2 ∧ Bl (fun x y => decide (cf x y < 0)) d2 20 0 ((k + 1) * 20)) := fun d2 h1 h2 => Lib.hid ⟨HQ.out.1.trans (h1.mono (by omega) hlt),by
    have ha' := ha.out
    have : (k + 1) * 20 = e := by omega
    rw [this]
    exact Bl.grow (c := k) (by omega) HQ.out.2 (fun x hx => h1.out x (.inl (by omega))) (by rw [← ha']; exact h2)⟩
   have ha2 : Hid (e = (k + 1) * 20) := Lib.hid (by have := ha.out; omega)
   clear he' HQ
   go_wp2_with fail
   (with_reducible refine C0.mono ?_)
   rintro z w1 ⟨rfl,d2,k1,k2,k3,k4⟩
   have hg := hgo d2 k1 k2
   clear k1 k2 hgo
   go_wp2_with fail
   go_roundw
   case rel => exact ⟨k + 1,e,e',d2,rfl,rfl,ha2,l1,l2,hlt,hg,k3,k4⟩
   case measure => simp only [intOf]; omega
  ·have ilt : ¬ (e : Int) ≤ (n : Int) := by omega
   have C0 := INS a n d1 wr HX1 HR1 (HQ.out.1.all (Nat.le_refl _) hS) (by omega) (Nat.le_refl _)
   have hgo : ∀ d2,Sw a n d1 d2 → Sd (fun x y => decide (cf x y < 0)) d2 a n → Hid (Sw 0 n d d2 ∧ Bl (fun x y => decide (cf x y < 0)) d2 20 0 n) := fun d2 h1 h2 => Lib.hid ⟨HQ.out.1.trans (h1.mono (by omega) (Nat.le_refl _)),by
    have ha' := ha.out
    exact Bl.grow (c := k) (by omega) HQ.out.2 (fun x hx => h1.out x (.inl (by omega))) (by rw [← ha']; exact h2)⟩
   clear HQ
   go_wp2_with fail
   (with_reducible refine C0.mono ?_)
   rintro z w1 ⟨rfl,d2,k1,k2,HR2,HX2⟩
   have HG := hgo d2 k1 k2
   clear k1 k2 hgo C0 HR1 HX1 INS
   go_wp2_with fail
   go_loopw [6] (fun vs wr => ∃ (s : Nat) (d1 : Nat → PtD),vs = .int .i64 s ∧ 0 < s ∧ s ≤ 20 + 2 * n ∧ Hid (Sw 0 n d d1 ∧ Bl (fun x y => decide (cf x y < 0)) d1 s 0 n) ∧ RowE 9 40 PtD.cs b n d1 wr ∧ ExtB b w0 wr) (fun vs _ => n - (intOf vs).toNat)
   case atStart => exact ⟨20,d2,rfl,by omega,by omega,HG,HR2,HX2⟩
   case round =>
    as_aux_lemma =>
    obtain ⟨s,d3,rfl,s0,s1,HQ,HR3,HX3⟩ := hrel
    clear HR2 HX2 HG
    by_cases hsn : s < n
    ·have isn : (s : Int) < (n : Int) := by omega
     obtain ⟨s2,hs2⟩ : ∃ s2,2 * s = s2 := ⟨_,rfl⟩
     have es2 : 2 * (s : Int) = (s2 : Int) := by omega
     have es3 : (s : Int) * 2 = (s2 : Int) := by omega
     have ws2 : IntKind.i64.wrap (s2 : Int) = (s2 : Int) := IntWalk.i64_in _ (by omega)
     have s3 : s2 ≤ 2 * s := by omega
     have s4 : 2 * s ≤ s2 := by omega
     replace hs2 := Lib.hid hs2
     go_wp2_with fail
     go_loopw [7,8] (fun va vb wr => ∃ (k : Nat) (a e : Nat) (d1 : Nat → PtD),va = .int .i64 a ∧ vb = .int .i64 e ∧ Hid (a = k * s2) ∧ e ≤ a + s2 ∧ a + s2 ≤ e ∧ a ≤ n ∧ Hid (Sw 0 n d d1 ∧ Bl (fun x y => decide (cf x y < 0)) d1 s2 0 a ∧ Bl (fun x y => decide (cf x y < 0)) d1 s a n) ∧ RowE 9 40 PtD.cs b n d1 wr ∧ ExtB b w0 wr) (fun va vb _ => n - (intOf va).toNat)
     case atStart => exact ⟨0,0,s2,d3,rfl,rfl,Lib.hid (by omega),by omega,by omega,by omega,Lib.hid ⟨HQ.out.1,fun i j _ _ h _ => by omega,HQ.out.2⟩,HR3,HX3⟩
     case round =>
      as_aux_lemma =>
      obtain ⟨k,a,e,d1,rfl,rfl,ha,e1,e2,e3,HQ,HR1,HX1⟩ := hrel
      clear HR3 HX3
      obtain ⟨m,hm⟩ : ∃ m,a + s = m := ⟨_,rfl⟩
      have em : (a : Int) + (s : Int) = (m : Int) := by omega
      have wm : IntKind.i64.wrap (m : Int) = (m : Int) := IntWalk.i64_in _ (by omega)
      have hak : a = (2 * k) * s := by have h1 := ha.out; have h2 := hs2.out; rw [h1,← h2,Nat.mul_comm 2 s,← Nat.mul_assoc,Nat.mul_comm (k * s) 2,Nat.mul_assoc]
      have hmk : m = (2 * k + 1) * s := by rw [Nat.add_mul,Nat.one_mul,← hak]; exact hm.symm
      by_cases hlt : e ≤ n
      ·have ilt : (e : Int) ≤ (n : Int) := by omega
       have t1 : Sd (fun x y => decide (cf x y < 0)) d1 a m := by
        have := Bl.sd (c := 2 * k) (e := m) s0 HQ.out.2.2 (by omega) (by omega) (by omega); rwa [← hak] at this
       have t2 : Sd (fun x y => decide (cf x y < 0)) d1 m e := by
        have := Bl.sd (c := 2 * k + 1) (e := e) s0 HQ.out.2.2 (by omega) (by omega) (by omega); rwa [← hmk] at this
       have C0 := SYM a m e d1 wr (by omega) (by omega) hlt HX1 HR1 (HQ.out.1.all (Nat.le_refl _) hS) t1 t2
       obtain ⟨e',he'⟩ : ∃ e',e + s2 = e' := ⟨_,rfl⟩
       have ee : (e : Int) + (s2 : Int) = (e' : Int) := by omega
       have we : IntKind.i64.wrap (e' : Int) = (e' : Int) := IntWalk.i64_in _ (by omega)
       have l1 : e' ≤ e + s2 := by omega
       have l2 : e + s2 ≤ e' := by omega
       have ha2 : Hid (e = (k + 1) * s2) := Lib.hid (by have := ha.out; rw [Nat.add_mul,Nat.one_mul,← this]; omega)
       have hgo : ∀ d2,Sw a e d1 d2 → Sd (fun x y => decide (cf x y < 0)) d2 a e → Hid (Sw 0 n d d2 ∧ Bl (fun x y => decide (cf x y < 0)) d2 s2 0 e ∧ Bl (fun x y => decide (cf x y < 0)) d2 s e n) := fun d2 h1 h2 => Lib.hid ⟨HQ.out.1.trans (h1.mono (by omega) hlt),
        Bl.grow (c := k) (by omega) (by rw [← ha.out]; exact HQ.out.2.1) (fun x hx => h1.out x (.inl (by have := ha.out; omega))) (by rw [← ha.out]; exact h2),
        HQ.out.2.2.congr (by omega) (fun x hx => h1.out x (.inr hx))⟩
       have l3 : a < e := by omega
       clear he' HQ t1 t2 hak hmk hm
       go_wp2_with fail
       (with_reducible refine C0.mono ?_)
       rintro z w1 ⟨rfl,d2,k1,k2,k3,k4⟩
       have hg := hgo d2 k1 k2
       clear k1 k2 hgo C0
       go_wp2_with fail
       go_roundw
       case rel => exact ⟨k + 1,e,e',d2,rfl,rfl,ha2,l1,l2,hlt,hg,k3,k4⟩
       case measure => simp only [intOf]; omega
      ·have ilt : ¬ (e : Int) ≤ (n : Int) := by omega
       by_cases hmn : m < n
       ·have imn : (m : Int) < (n : Int) := by omega
        have t1 : Sd (fun x y => decide (cf x y < 0)) d1 a m := by
         have := Bl.sd (c := 2 * k) (e := m) s0 HQ.out.2.2 (by omega) (by omega) (by omega); rwa [← hak] at this
        have t2 : Sd (fun x y => decide (cf x y < 0)) d1 m n := by
         have := Bl.sd (c := 2 * k + 1) (e := n) s0 HQ.out.2.2 (by omega) (by omega) (by omega); rwa [← hmk] at this
        have C0 := SYM a m n d1 wr (by omega) hmn (Nat.le_refl _) HX1 HR1 (HQ.out.1.all (Nat.le_refl _) hS) t1 t2
        have hgo : ∀ d2,Sw a n d1 d2 → Sd (fun x y => decide (cf x y < 0)) d2 a n → Hid (Sw 0 n d d2 ∧ Bl (fun x y => decide (cf x y < 0)) d2 s2 0 n) := fun d2 h1 h2 => Lib.hid ⟨HQ.out.1.trans (h1.mono (by omega) (Nat.le_refl _)),
         Bl.grow (c := k) (by omega) (by rw [← ha.out]; exact HQ.out.2.1) (fun x hx => h1.out x (.inl (by have := ha.out; omega))) (by rw [← ha.out]; exact h2)⟩
        clear HQ t1 t2 hak hmk hm
        go_wp2_with fail
        (with_reducible refine C0.mono ?_)
        rintro z w1 ⟨rfl,d2,k1,k2,k3,k4⟩
        have hg := hgo d2 k1 k2
        clear k1 k2 hgo C0
        go_wp2_with fail
        go_roundw
        case rel => exact ⟨s2,d2,rfl,by omega,by omega,hg,k3,k4⟩
        case measure => simp only [intOf]; omega
       ·have imn : ¬ (m : Int) < (n : Int) := by omega
        have hg : Hid (Sw 0 n d d1 ∧ Bl (fun x y => decide (cf x y < 0)) d1 s2 0 n) := Lib.hid ⟨HQ.out.1,Bl.grow (c := k) (by omega) (by rw [← ha.out]; exact HQ.out.2.1) (fun x _ => rfl) (by
         rw [← ha.out,hak]
         exact Bl.sd (c := 2 * k) (e := n) s0 HQ.out.2.2 (by omega) (Nat.le_refl _) (by omega))⟩
        clear HQ hak hmk hm
        go_wp2_with fail
        go_roundw
        case rel => exact ⟨s2,d1,rfl,by omega,by omega,hg,HR1,HX1⟩
        case measure => simp only [intOf]; omega
    ·have isn : ¬ (s : Int) < (n : Int) := by omega
     have FF : Hid (Sw 0 n d d3 ∧ Sd (fun x y => decide (cf x y < 0)) d3 0 n) := Lib.hid ⟨HQ.out.1,HQ.out.2.whole (by omega)⟩
     clear HQ
     go_wp2_with fail
     go_end0
     exact ⟨rfl,d3,FF.out.1,FF.out.2,HR3,HX3⟩
theorem sort_p (S : PtD → Prop) (cf : PtD → PtD → Int) (L : Lt (fun x y => decide (cf x y < 0))) (b n c : Nat) (d : Nat → PtD) (w0 w : World) (hb : b < w0.heap.size) (hn : n ≤ 1000) (hX : ExtB b w0 w) (hR : RowE 9 40 PtD.cs b n d w) (hS : ∀ i,i < n → S (d i)) (C : ∀ W x y,ExtB b w0 W → S x → S y → Calls Tryz.prog 56 #[x.v,y.v] W fun e w' => e = .returned (.int .i64 (cf x y)) ∧ Ext W w') :
  Calls Tryz.prog 69 #[.slice (some ⟨b,0,none⟩) n c,.func (.func 56) #[] #[]] w fun z w' => z = .returned (.tuple #[]) ∧ ∃ d',Sw 0 n d d' ∧ Sd (fun x y => decide (cf x y < 0)) d' 0 n ∧ RowE 9 40 PtD.cs b n d' w' ∧ ExtB b w0 w' := by
 have ST := stable_p S cf L b n c d w0 w hb hn hX hR hS C
 clear hX hR C
 go_enter Tryz.func69,Tryz.ntmps69
 go_wp2_with fail
 (with_reducible refine ST.mono ?_)
 rintro z w1 ⟨rfl,d2,k1,k2,k3,k4⟩
 go_wp2_with fail
 go_end0
 exact ⟨rfl,d2,k1,k2,k3,k4⟩
end Go.Proofs.YtjjnmefihdjglaaGreat
