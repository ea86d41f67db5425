import Derived.Test.YtjjnmefihdjglaaGreatRcA
import Derived.Test.YtjjnmefihdjglaaGreatKL
set_option maxRecDepth 100000
set_option maxHeartbeats 64000000
set_option linter.all false
namespace Go.Proofs.YtjjnmefihdjglaaGreat
open Go.RowKit
theorem rSameP_any (p q : PtD) (w : World) (hp : p.Ok w) (hq : q.Ok w) :
  Calls Tryz.prog 14 #[p.v,q.v] w fun e w' => e = .returned (.bool (sameY p.y q.y)) ∧ Ext w w' := by
 have C := fun W (x : Ext w W) => rcmpD_any p q W (hp.ext x) (hq.ext x)
 obtain ⟨RB,hRB⟩ : ∃ x,sameY p.y q.y = x := ⟨_,rfl⟩
 rw [hRB]
 replace hRB : (cmpK p.k q.k == 0 && (p.m == q.m && p.s == q.s)) = RB := hRB
 clear hp hq
 unfold PtD.v ptV at C ⊢
 generalize cmpK p.k q.k = R at *
 obtain ⟨a1,c1,l1,r1,f1,M1,S1,m1,s1,t1,T1⟩ := p
 obtain ⟨a2,c2,l2,r2,f2,M2,S2,m2,s2,t2,T2⟩ := q
 dsimp only at C hRB ⊢
 obtain ⟨v1,hv1⟩ : ∃ v,Value.slice a1 l1.length c1 = v := ⟨_,rfl⟩
 obtain ⟨v2,hv2⟩ : ∃ v,Value.slice a2 l2.length c2 = v := ⟨_,rfl⟩
 rw [hv1,hv2] at C
 rw [hv1,hv2]
 clear hv1 hv2
 have hx : Ext w ((w.alloc (.cells #[v1,.int .i64 r1,.bool f1,.int .i64 M1,.int .i64 S1,.int .i64 m1,.int .i64 s1,.bool t1,.int .i64 T1] 40)).alloc (.cells #[v2,.int .i64 r2,.bool f2,.int .i64 M2,.int .i64 S2,.int .i64 m2,.int .i64 s2,.bool t2,.int .i64 T2] 40)) := ((Ext.refl _).alloc _).alloc _
 have g1 : PtIn w.heap.size v1 r1 f1 M1 S1 m1 s1 t1 T1 ((w.alloc (.cells #[v1,.int .i64 r1,.bool f1,.int .i64 M1,.int .i64 S1,.int .i64 m1,.int .i64 s1,.bool t1,.int .i64 T1] 40)).alloc (.cells #[v2,.int .i64 r2,.bool f2,.int .i64 M2,.int .i64 S2,.int .i64 m2,.int .i64 s2,.bool t2,.int .i64 T2] 40)) := heap_at2a _ _ _
 have g2 : PtIn (w.heap.size + 1) v2 r2 f2 M2 S2 m2 s2 t2 T2 ((w.alloc (.cells #[v1,.int .i64 r1,.bool f1,.int .i64 M1,.int .i64 S1,.int .i64 m1,.int .i64 s1,.bool t1,.int .i64 T1] 40)).alloc (.cells #[v2,.int .i64 r2,.bool f2,.int .i64 M2,.int .i64 S2,.int .i64 m2,.int .i64 s2,.bool t2,.int .i64 T2] 40)) := heap_at2b _ _ _
 have C2 := C _ hx
 by_cases hR : R = 0
 ·subst hR
  by_cases hm : m1 = m2
  ·subst hm
   by_cases hs : s1 = s2
   ·subst hs
    have HV : Hid (RB = true) := Lib.hid (by rw [← hRB]; simp [])
    clear hRB
    obtain ⟨k0,k1,k2,k3,k4,k5,k6,k7,k8⟩ := g1.cells
    obtain ⟨p0,p1,p2,p3,p4,p5,p6,p7,p8⟩ := g2.cells
    go_enter Tryz.func14,Tryz.ntmps14
    go_wp2_with fail
    (with_reducible refine C2.mono ?_)
    rintro e w9 ⟨rfl,x9⟩
    clear k0 k1 k2 k3 k4 k5 k6 k7 k8 p0 p1 p2 p3 p4 p5 p6 p7 p8
    obtain ⟨k0,k1,k2,k3,k4,k5,k6,k7,k8⟩ := (g1.ext x9).cells
    obtain ⟨p0,p1,p2,p3,p4,p5,p6,p7,p8⟩ := (g2.ext x9).cells
    go_wp2_with fail
    go_ret
    exact ⟨retB HV.out.symm,hx.trans x9⟩
   ·have HV : Hid (RB = false) := Lib.hid (by rw [← hRB]; simp [hs])
    clear hRB
    obtain ⟨k0,k1,k2,k3,k4,k5,k6,k7,k8⟩ := g1.cells
    obtain ⟨p0,p1,p2,p3,p4,p5,p6,p7,p8⟩ := g2.cells
    go_enter Tryz.func14,Tryz.ntmps14
    go_wp2_with fail
    (with_reducible refine C2.mono ?_)
    rintro e w9 ⟨rfl,x9⟩
    clear k0 k1 k2 k3 k4 k5 k6 k7 k8 p0 p1 p2 p3 p4 p5 p6 p7 p8
    obtain ⟨k0,k1,k2,k3,k4,k5,k6,k7,k8⟩ := (g1.ext x9).cells
    obtain ⟨p0,p1,p2,p3,p4,p5,p6,p7,p8⟩ := (g2.ext x9).cells
    go_wp2_with fail
    go_ret
    exact ⟨retB HV.out.symm,hx.trans x9⟩
  ·have HV : Hid (RB = false) := Lib.hid (by rw [← hRB]; simp [hm])
   clear hRB
   obtain ⟨k0,k1,k2,k3,k4,k5,k6,k7,k8⟩ := g1.cells
   obtain ⟨p0,p1,p2,p3,p4,p5,p6,p7,p8⟩ := g2.cells
   go_enter Tryz.func14,Tryz.ntmps14
   go_wp2_with fail
   (with_reducible refine C2.mono ?_)
   rintro e w9 ⟨rfl,x9⟩
   clear k0 k1 k2 k3 k4 k5 k6 k7 k8 p0 p1 p2 p3 p4 p5 p6 p7 p8
   obtain ⟨k0,k1,k2,k3,k4,k5,k6,k7,k8⟩ := (g1.ext x9).cells
   obtain ⟨p0,p1,p2,p3,p4,p5,p6,p7,p8⟩ := (g2.ext x9).cells
   go_wp2_with fail
   go_ret
   exact ⟨retB HV.out.symm,hx.trans x9⟩
 ·have HV : Hid (RB = false) := Lib.hid (by rw [← hRB]; simp [hR])
  clear hRB
  obtain ⟨k0,k1,k2,k3,k4,k5,k6,k7,k8⟩ := g1.cells
  obtain ⟨p0,p1,p2,p3,p4,p5,p6,p7,p8⟩ := g2.cells
  go_enter Tryz.func14,Tryz.ntmps14
  go_wp2_with fail
  (with_reducible refine C2.mono ?_)
  rintro e w9 ⟨rfl,x9⟩
  clear k0 k1 k2 k3 k4 k5 k6 k7 k8 p0 p1 p2 p3 p4 p5 p6 p7 p8
  obtain ⟨k0,k1,k2,k3,k4,k5,k6,k7,k8⟩ := (g1.ext x9).cells
  obtain ⟨p0,p1,p2,p3,p4,p5,p6,p7,p8⟩ := (g2.ext x9).cells
  go_wp2_with fail
  go_ret
  exact ⟨retB HV.out.symm,hx.trans x9⟩
theorem rSameF_any (f g : FamD) (w : World) (hf : PtsA f.pa f.ps w) (hg : PtsA g.pa g.ps w) (sf : f.y.Sm) (sg : g.y.Sm) :
  Calls Tryz.prog 31 #[f.v,g.v] w fun e w' => e = .returned (.bool (sameF f.y g.y)) ∧ Ext w w' := by
 obtain ⟨R0,hR0⟩ : ∃ R,sameF f.y g.y = R := ⟨_,rfl⟩
 rw [hR0]
 obtain ⟨n1,kd1,u1,he1,a1,z1,l1⟩ := f
 obtain ⟨n2,kd2,u2,he2,a2,z2,l2⟩ := g
 replace hR0 : (headB n1 kd1 u1 he1 n2 kd2 u2 he2 && sameYs (l1.map PtD.y) (l2.map PtD.y)) = R0 := hR0
 have m1 : l1.length ≤ 1000 := sf.pl
 have m2 : l2.length ≤ 1000 := sg.pl
 change PtsA a1 l1 w at hf
 change PtsA a2 l2 w at hg
 clear sf sg
 unfold FamD.v
 dsimp only
 obtain ⟨W,hW⟩ : ∃ W,(w.alloc (.cells #[.string n1,.int .i64 kd1,.string u1,.string he1,.slice a1 l1.length z1] 35)).alloc (.cells #[.string n2,.int .i64 kd2,.string u2,.string he2,.slice a2 l2.length z2] 35) = W := ⟨_,rfl⟩
 have x1 : Ext w W := by rw [← hW]; exact ((Ext.refl w).alloc _).alloc _
 have g1 : FamIn w.heap.size n1 kd1 u1 he1 (.slice a1 l1.length z1) W := by rw [← hW]; exact heap_at2a _ _ _
 have g2 : FamIn (w.heap.size + 1) n2 kd2 u2 he2 (.slice a2 l2.length z2) W := by rw [← hW]; exact heap_at2b _ _ _
 replace hW := Lib.hid hW
 obtain ⟨B,hB⟩ : ∃ B,w.heap.size = B := ⟨_,rfl⟩
 rw [hB] at g1 g2
 obtain ⟨c0,c1,c2,c3,c4⟩ := g1.cells
 obtain ⟨d0,d1,d2,d3,d4⟩ := g2.cells
 by_cases HE : n1 = n2 ∧ kd1 = kd2 ∧ u1 = u2 ∧ he1 = he2
 ·rw [show headB n1 kd1 u1 he1 n2 kd2 u2 he2 = true from decide_eq_true HE,Bool.true_and] at hR0
  obtain ⟨rfl,rfl,rfl,rfl⟩ := HE
  by_cases hne : l1.length = l2.length
  ·obtain ⟨n,hn⟩ : ∃ n,l1.length = n := ⟨_,rfl⟩
   have hn2 : l2.length = n := by omega
   have hnn : n ≤ 1000 := by omega
   rw [hn] at g1 c4
   rw [hn2] at g2 d4
   go_enter Tryz.func31,Tryz.ntmps31
   go_wp2_with fail
   have hW2 := hW.out
   rw [hn,hn2] at hW2
   first | rw [hW2] | rw [hn,hn2,hW2]
   clear hW2
   go_loopw [5] (fun i wr => ∃ k : Nat,i = .int .i64 k ∧ k ≤ n ∧ Hid (sameYs ((l1.drop k).map PtD.y) ((l2.drop k).map PtD.y) = R0) ∧ Ext W wr) (fun i _ => n - (intOf i).toNat)
   case atStart => exact ⟨0,rfl,Nat.zero_le _,Lib.hid hR0,Ext.refl _⟩
   case round =>
    obtain ⟨k,rfl,hk,hgd,xr⟩ := hrel
    clear hR0 c0 c1 c2 c3 c4 d0 d1 d2 d3 d4 hW hB
    replace g1 := g1.ext xr
    replace g2 := g2.ext xr
    obtain ⟨c0,c1,c2,c3,c4⟩ := g1.cells
    obtain ⟨d0,d1,d2,d3,d4⟩ := g2.cells
    replace hf := hf.ext (x1.trans xr)
    replace hg := hg.ext (x1.trans xr)
    by_cases hlt : k < n
    ·have hd := hgd.out
     have k1 : k < l1.length := by omega
     have k2 : k < l2.length := by omega
     rw [List.drop_eq_getElem_cons k1,List.drop_eq_getElem_cons k2,List.map_cons,List.map_cons,sameYs] at hd
     obtain ⟨b1,o1,rfl,hb1,P1⟩ := hf.1 (by omega)
     obtain ⟨b2,o2,rfl,hb2,P2⟩ := hg.1 (by omega)
     have ok1 := hf.2 _ (List.getElem_mem k1)
     have ok2 := hg.2 _ (List.getElem_mem k2)
     obtain ⟨p0,p1,p2,p3,p4,p5,p6,p7,p8⟩ := P1 k k1
     obtain ⟨q0,q1,q2,q3,q4,q5,q6,q7,q8⟩ := P2 k k2
     generalize l1[k] = p at *
     generalize l2[k] = q at *
     have C := fun W (x : Ext wr W) => rSameP_any p q W (ok1.ext x) (ok2.ext x)
     obtain ⟨g,hgg⟩ : ∃ g,sameY p.y q.y = g := ⟨_,rfl⟩
     rw [hgg] at C hd
     unfold PtD.v ptV at C
     have i1 : (k : Int) < (n : Int) := by omega
     have V1 : Hid (g = false → false = R0) := Lib.hid (fun h => by rw [← hd,h]; rfl)
     have V2 : Hid (g = true → sameYs ((l1.drop (k + 1)).map PtD.y) ((l2.drop (k + 1)).map PtD.y) = R0) := Lib.hid (fun h => by rw [← hd,h,Bool.true_and])
     clear P1 P2 ok1 ok2 hf hg hgg hgd hd k1 k2 hn hn2 hne m1 m2
     go_wp2_with fail
     refine wp_region_held_drew (S := Ext wr) (by kernel_rfl) ((Ext.refl wr).drew) (fun hH => ?_)
     refine tk 0 rfl (by kernel_rfl) (fun _ _ _ h => h) rfl (fun w9 hS9 => by obtain ⟨c0,c1,c2,c3,c4⟩ := (g1.ext hS9).cells; obtain ⟨d0,d1,d2,d3,d4⟩ := (g2.ext hS9).cells; go_simp; (try rfl)) hH ?_
     try simp only [Act.put,aT,aZ,aS]
     refine tk 1 rfl (by kernel_rfl) (fun _ _ _ h => h) rfl (fun w9 hS9 => by obtain ⟨c0,c1,c2,c3,c4⟩ := (g1.ext hS9).cells; obtain ⟨d0,d1,d2,d3,d4⟩ := (g2.ext hS9).cells; go_simp; (try rfl)) hH ?_
     try simp only [Act.put,aT,aZ,aS]
     refine tk 2 rfl (by kernel_rfl) (fun _ _ _ h => h) rfl (fun w9 hS9 => by obtain ⟨c0,c1,c2,c3,c4⟩ := (g1.ext hS9).cells; obtain ⟨d0,d1,d2,d3,d4⟩ := (g2.ext hS9).cells; go_simp; (try rfl)) hH ?_
     try simp only [Act.put,aT,aZ,aS]
     refine tk 3 rfl (by kernel_rfl) (fun _ _ _ h => h) rfl (fun w9 hS9 => by obtain ⟨c0,c1,c2,c3,c4⟩ := (g1.ext hS9).cells; obtain ⟨d0,d1,d2,d3,d4⟩ := (g2.ext hS9).cells; go_simp; (try rfl)) hH ?_
     try simp only [Act.put,aT,aZ,aS]
     refine tk 4 rfl (by kernel_rfl) (fun _ _ _ h => h) rfl (fun w9 hS9 => by replace p0 := (Ext.cell hS9 hb1).trans p0; replace p1 := (Ext.cell hS9 hb1).trans p1; replace p2 := (Ext.cell hS9 hb1).trans p2; replace p3 := (Ext.cell hS9 hb1).trans p3; replace p4 := (Ext.cell hS9 hb1).trans p4; replace p5 := (Ext.cell hS9 hb1).trans p5; replace p6 := (Ext.cell hS9 hb1).trans p6; replace p7 := (Ext.cell hS9 hb1).trans p7; replace p8 := (Ext.cell hS9 hb1).trans p8; go_simp; (try rfl)) hH ?_
     try simp only [Act.put,aT,aZ,aS]
     refine tk 5 rfl (by kernel_rfl) (fun _ _ _ h => h) rfl (fun w9 hS9 => by obtain ⟨c0,c1,c2,c3,c4⟩ := (g1.ext hS9).cells; obtain ⟨d0,d1,d2,d3,d4⟩ := (g2.ext hS9).cells; go_simp; (try rfl)) hH ?_
     try simp only [Act.put,aT,aZ,aS]
     refine tk 6 rfl (by kernel_rfl) (fun _ _ _ h => h) rfl (fun w9 hS9 => by obtain ⟨c0,c1,c2,c3,c4⟩ := (g1.ext hS9).cells; obtain ⟨d0,d1,d2,d3,d4⟩ := (g2.ext hS9).cells; go_simp; (try rfl)) hH ?_
     try simp only [Act.put,aT,aZ,aS]
     refine tk 7 rfl (by kernel_rfl) (fun _ _ _ h => h) rfl (fun w9 hS9 => by obtain ⟨c0,c1,c2,c3,c4⟩ := (g1.ext hS9).cells; obtain ⟨d0,d1,d2,d3,d4⟩ := (g2.ext hS9).cells; go_simp; (try rfl)) hH ?_
     try simp only [Act.put,aT,aZ,aS]
     refine tk 8 rfl (by kernel_rfl) (fun _ _ _ h => h) rfl (fun w9 hS9 => by obtain ⟨c0,c1,c2,c3,c4⟩ := (g1.ext hS9).cells; obtain ⟨d0,d1,d2,d3,d4⟩ := (g2.ext hS9).cells; go_simp; (try rfl)) hH ?_
     try simp only [Act.put,aT,aZ,aS]
     refine tk 9 rfl (by kernel_rfl) (fun _ _ _ h => h) rfl (fun w9 hS9 => by replace q0 := (Ext.cell hS9 hb2).trans q0; replace q1 := (Ext.cell hS9 hb2).trans q1; replace q2 := (Ext.cell hS9 hb2).trans q2; replace q3 := (Ext.cell hS9 hb2).trans q3; replace q4 := (Ext.cell hS9 hb2).trans q4; replace q5 := (Ext.cell hS9 hb2).trans q5; replace q6 := (Ext.cell hS9 hb2).trans q6; replace q7 := (Ext.cell hS9 hb2).trans q7; replace q8 := (Ext.cell hS9 hb2).trans q8; go_simp; (try rfl)) hH ?_
     try simp only [Act.put,aT,aZ,aS]
     refine wR (rs := [10]) (by kernel_rfl) (by simp) (aR rfl (fun K hK => ?_) aN)
     rw [if_pos (by rfl)]
     go_simp
     go_at_call 14
     (with_reducible refine (C _ hH).mono ?_)
     rintro e wz ⟨rfl,xz⟩
     refine hK.out _ _ (hH.trans xz) (fun hH => ?_)
     clear hK K
     try simp only [aT,aZ,aS]
     refine tk 11 rfl (by kernel_rfl) (fun _ _ _ h => h) rfl (fun w9 hS9 => by go_simp; (try rfl)) hH ?_
     try simp only [Act.put,aT,aZ,aS]
     refine wpAnyH_done (by kernel_rfl) ?_ _
     cases g
     ·replace V1 := Lib.hid (V1.out rfl)
      clear V2
      go_wp2_with fail
      go_ret
      exact ⟨retB V1.out,(x1.trans xr).trans hH⟩
     ·replace V2 := Lib.hid (V2.out rfl)
      clear V1
      go_wp2_with fail
      go_roundw
      case rel => exact ⟨k + 1,rfl,hlt,V2,xr.trans hH⟩
      case measure => simp only [intOf]; omega
    ·have hd := hgd.out
     rw [List.drop_eq_nil_of_le (by omega),List.drop_eq_nil_of_le (by omega)] at hd
     replace hd : Hid (true = R0) := Lib.hid hd
     have i1 : ¬ (k : Int) < (n : Int) := by omega
     clear hgd hf hg
     go_wp2_with fail
     go_ret
     exact ⟨retB hd.out,x1.trans xr⟩
  ·have HV : Hid (false = R0) := Lib.hid (by
    rw [← hR0]
    cases h : sameYs (l1.map PtD.y) (l2.map PtD.y)
    ·rfl
    ·exact absurd (by simpa using sameYs_len _ _ h) hne)
   have hne2 : ¬ (l1.length : Int) = (l2.length : Int) := by omega
   clear hR0 hf hg
   go_enter Tryz.func31,Tryz.ntmps31
   go_wp2_with fail
   try rw [hW.out]
   try go_wp2_with fail
   go_ret
   exact ⟨retB HV.out,x1⟩
 ·have HV : Hid (false = R0) := Lib.hid (by rw [← hR0,show headB n1 kd1 u1 he1 n2 kd2 u2 he2 = false from decide_eq_false HE,Bool.false_and])
  replace HE := Lib.hid HE
  clear hR0 hf hg m1 m2 g1 g2 c0 c1 c2 c3 c4 d0 d1 d2 d3 d4
  go_enter Tryz.func31,Tryz.ntmps31
  go_wp2_with fail
  all_goals first
   | (go_ret; exact ⟨retB HV.out,((Ext.refl _).alloc _).alloc _⟩)
   | (go_wp2_with fail; go_ret; exact ⟨retB HV.out,((Ext.refl _).alloc _).alloc _⟩)
   | (exfalso; exact HE.out ⟨tl_inj (by assumption),by first | rfl | assumption,tl_inj (by assumption),tl_inj (by assumption)⟩)
theorem rSameFs_any (a1 : Option Addr) (c1 : Nat) (l1 : List FamD) (a2 : Option Addr) (c2 : Nat) (l2 : List FamD) (w : World) (n1 : l1.length ≤ 1000000) (n2 : l2.length ≤ 1000000) (h1 : FamsA a1 l1 w) (h2 : FamsA a2 l2 w) (s1 : ∀ f ∈ l1,f.y.Sm) (s2 : ∀ f ∈ l2,f.y.Sm) :
  Calls Tryz.prog 50 #[.slice a1 l1.length c1,.slice a2 l2.length c2] w fun e w' => e = .returned (.bool (sameFs (l1.map FamD.y) (l2.map FamD.y))) ∧ Ext w w' := by
 obtain ⟨R0,hR0⟩ : ∃ R,sameFs (l1.map FamD.y) (l2.map FamD.y) = R := ⟨_,rfl⟩
 rw [hR0]
 by_cases hne : l1.length = l2.length
 ·obtain ⟨n,hn⟩ : ∃ n,l1.length = n := ⟨_,rfl⟩
  rw [← hne,hn]
  go_enter Tryz.func50,Tryz.ntmps50
  go_wp2_with fail
  go_loopw [5] (fun i wr => ∃ k : Nat,i = .int .i64 k ∧ k ≤ n ∧ Hid (sameFs ((l1.drop k).map FamD.y) ((l2.drop k).map FamD.y) = R0) ∧ Ext w wr) (fun i _ => n - (intOf i).toNat)
  case atStart => exact ⟨0,rfl,Nat.zero_le _,Lib.hid hR0,Ext.refl _⟩
  case round =>
   obtain ⟨k,rfl,hk,hgd,xr⟩ := hrel
   clear hR0
   replace h1 := h1.ext xr
   replace h2 := h2.ext xr
   by_cases hlt : k < n
   ·have hd := hgd.out
    have k1 : k < l1.length := by omega
    have k2 : k < l2.length := by omega
    rw [List.drop_eq_getElem_cons k1,List.drop_eq_getElem_cons k2,List.map_cons,List.map_cons,sameFs] at hd
    obtain ⟨b1,o1,rfl,hb1,P1⟩ := h1.1 (by omega)
    obtain ⟨b2,o2,rfl,hb2,P2⟩ := h2.1 (by omega)
    have ok1 := h1.2 _ (List.getElem_mem k1)
    have ok2 := h2.2 _ (List.getElem_mem k2)
    have sm1 := s1 _ (List.getElem_mem k1)
    have sm2 := s2 _ (List.getElem_mem k2)
    obtain ⟨p0,p1,p2,p3,p4⟩ := P1 k k1
    obtain ⟨q0,q1,q2,q3,q4⟩ := P2 k k2
    generalize l1[k] = p at *
    generalize l2[k] = q at *
    have C := fun W (x : Ext wr W) => rSameF_any p q W (ok1.ext x) (ok2.ext x) sm1 sm2
    obtain ⟨g,hgg⟩ : ∃ g,sameF p.y q.y = g := ⟨_,rfl⟩
    rw [hgg] at C hd
    unfold FamD.v at C
    have i1 : (k : Int) < (n : Int) := by omega
    have V1 : Hid (g = false → false = R0) := Lib.hid (fun h => by rw [← hd,h]; rfl)
    have V2 : Hid (g = true → sameFs ((l1.drop (k + 1)).map FamD.y) ((l2.drop (k + 1)).map FamD.y) = R0) := Lib.hid (fun h => by rw [← hd,h,Bool.true_and])
    clear P1 P2 ok1 ok2 h1 h2 hgg hgd hd s1 s2 sm1 sm2 k1 k2 hne n2
    go_wp2_with fail
    refine wp_region_held_drew (S := Ext wr) (by kernel_rfl) ((Ext.refl wr).drew) (fun hH => ?_)
    refine tk 0 rfl (by kernel_rfl) (fun _ _ _ h => h) rfl (fun w9 hS9 => by go_simp; (try rfl)) hH ?_
    try simp only [Act.put,aT,aZ,aS]
    refine tk 1 rfl (by kernel_rfl) (fun _ _ _ h => h) rfl (fun w9 hS9 => by go_simp; (try rfl)) hH ?_
    try simp only [Act.put,aT,aZ,aS]
    refine tk 2 rfl (by kernel_rfl) (fun _ _ _ h => h) rfl (fun w9 hS9 => by go_simp; (try rfl)) hH ?_
    try simp only [Act.put,aT,aZ,aS]
    refine tk 3 rfl (by kernel_rfl) (fun _ _ _ h => h) rfl (fun w9 hS9 => by replace p0 := (Ext.cell hS9 hb1).trans p0; replace p1 := (Ext.cell hS9 hb1).trans p1; replace p2 := (Ext.cell hS9 hb1).trans p2; replace p3 := (Ext.cell hS9 hb1).trans p3; replace p4 := (Ext.cell hS9 hb1).trans p4; go_simp; (try rfl)) hH ?_
    try simp only [Act.put,aT,aZ,aS]
    refine tk 4 rfl (by kernel_rfl) (fun _ _ _ h => h) rfl (fun w9 hS9 => by go_simp; (try rfl)) hH ?_
    try simp only [Act.put,aT,aZ,aS]
    refine tk 5 rfl (by kernel_rfl) (fun _ _ _ h => h) rfl (fun w9 hS9 => by go_simp; (try rfl)) hH ?_
    try simp only [Act.put,aT,aZ,aS]
    refine tk 6 rfl (by kernel_rfl) (fun _ _ _ h => h) rfl (fun w9 hS9 => by go_simp; (try rfl)) hH ?_
    try simp only [Act.put,aT,aZ,aS]
    refine tk 7 rfl (by kernel_rfl) (fun _ _ _ h => h) rfl (fun w9 hS9 => by replace q0 := (Ext.cell hS9 hb2).trans q0; replace q1 := (Ext.cell hS9 hb2).trans q1; replace q2 := (Ext.cell hS9 hb2).trans q2; replace q3 := (Ext.cell hS9 hb2).trans q3; replace q4 := (Ext.cell hS9 hb2).trans q4; go_simp; (try rfl)) hH ?_
    try simp only [Act.put,aT,aZ,aS]
    refine wR (rs := [8]) (by kernel_rfl) (by simp) (aR rfl (fun K hK => ?_) aN)
    rw [if_pos (by rfl)]
    go_simp
    go_at_call 31
    (with_reducible refine (C _ hH).mono ?_)
    rintro e wz ⟨rfl,xz⟩
    refine hK.out _ _ (hH.trans xz) (fun hH => ?_)
    clear hK K
    try simp only [aT,aZ,aS]
    refine tk 9 rfl (by kernel_rfl) (fun _ _ _ h => h) rfl (fun w9 hS9 => by go_simp; (try rfl)) hH ?_
    try simp only [Act.put,aT,aZ,aS]
    refine wpAnyH_done (by kernel_rfl) ?_ _
    cases g
    ·replace V1 := Lib.hid (V1.out rfl)
     clear V2
     go_wp2_with fail
     go_ret
     exact ⟨retB V1.out,xr.trans hH⟩
    ·replace V2 := Lib.hid (V2.out rfl)
     clear V1
     go_wp2_with fail
     go_roundw
     case rel => exact ⟨k + 1,rfl,hlt,V2,xr.trans hH⟩
     case measure => simp only [intOf]; omega
   ·have hd := hgd.out
    rw [List.drop_eq_nil_of_le (by omega),List.drop_eq_nil_of_le (by omega)] at hd
    replace hd : Hid (true = R0) := Lib.hid hd
    have i1 : ¬ (k : Int) < (n : Int) := by omega
    clear hgd
    go_wp2_with fail
    go_ret
    exact ⟨retB hd.out,xr⟩
 ·have HV : Hid (false = R0) := Lib.hid (by
   rw [← hR0]
   cases h : sameFs (l1.map FamD.y) (l2.map FamD.y)
   ·rfl
   ·exact absurd (by simpa using sameFs_len _ _ h) hne)
  have hne2 : ¬ (l1.length : Int) = (l2.length : Int) := by omega
  clear hR0 h1 h2
  go_enter Tryz.func50,Tryz.ntmps50
  go_wp2_with fail
  go_ret
  exact ⟨retB HV.out,Ext.refl _⟩
theorem rSame_any (t1 : ByteArray) (a1 : Option Addr) (c1 : Nat) (l1 : List FamD) (t2 : ByteArray) (a2 : Option Addr) (c2 : Nat) (l2 : List FamD) (w : World) (n1 : l1.length ≤ 1000000) (n2 : l2.length ≤ 1000000) (h1 : FamsA a1 l1 w) (h2 : FamsA a2 l2 w) (s1 : ∀ f ∈ l1,f.y.Sm) (s2 : ∀ f ∈ l2,f.y.Sm) :
  Calls Tryz.prog 26 #[.agg #[.string t1,.slice a1 l1.length c1],.agg #[.string t2,.slice a2 l2.length c2]] w fun e w' => e = .returned (.bool (decide (t1 = t2) && sameFs (l1.map FamD.y) (l2.map FamD.y))) ∧ Ext w w' := by
 have C := fun W (x : Ext w W) => rSameFs_any a1 c1 l1 a2 c2 l2 W n1 n2 (h1.ext x) (h2.ext x) s1 s2
 obtain ⟨V1,hV1⟩ : ∃ V,Value.slice a1 l1.length c1 = V := ⟨_,rfl⟩
 obtain ⟨V2,hV2⟩ : ∃ V,Value.slice a2 l2.length c2 = V := ⟨_,rfl⟩
 rw [hV1,hV2] at C
 rw [hV1,hV2]
 clear hV1 hV2 h1 h2 s1 s2
 generalize sameFs (l1.map FamD.y) (l2.map FamD.y) = R at *
 have xw := ((Ext.refl w).alloc (.cells #[.string t1,V1] 27)).alloc (.cells #[.string t2,V2] 27)
 have e2 := eq_is t1 t2
 by_cases HE : t1 = t2
 ·rw [decide_eq_true HE] at e2
  rw [decide_eq_true HE,Bool.true_and]
  clear HE
  go_enter Tryz.func26,Tryz.ntmps26
  go_wp2_with fail
  (with_reducible refine (C _ xw).mono ?_)
  rintro e w1 ⟨rfl,x1⟩
  go_wp2_with fail
  go_ret
  exact ⟨rfl,xw.trans x1⟩
 ·rw [decide_eq_false HE] at e2
  rw [decide_eq_false HE,Bool.false_and]
  clear HE
  go_enter Tryz.func26,Tryz.ntmps26
  go_wp2_with fail
  go_ret
  exact ⟨rfl,xw⟩
end Go.Proofs.YtjjnmefihdjglaaGreat
