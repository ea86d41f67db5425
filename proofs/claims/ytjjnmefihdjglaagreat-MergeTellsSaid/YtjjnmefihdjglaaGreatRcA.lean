import Derived.Test.YtjjnmefihdjglaaGreatKO
import Derived.Test.YtjjnmefihdjglaaGreatPtH
import Derived.Test.YtjjnmefihdjglaaGreatKP
set_option maxRecDepth 100000
set_option maxHeartbeats 64000000
set_option linter.all false
namespace Go.Proofs.YtjjnmefihdjglaaGreat
open Go.RowKit
theorem rcmpD_any (p q : PtD) (w : World) (h1 : p.Ok w) (h2 : q.Ok w) : Calls Tryz.prog 34 #[p.v,q.v] w fun e w' => e = .returned (.int .i64 (cmpK p.k q.k)) ∧ Ext w w' :=
 rPtCmp_any p.a q.a p.c q.c p.l q.l p.r p.f p.M p.S p.m p.s p.t p.T q.r q.f q.M q.S q.m q.s q.t q.T w h1.1 h2.1 h1.2.1 h2.2.1 h1.2.2.2.1.1 h1.2.2.2.1.2 h2.2.2.2.1.1 h2.2.2.2.1.2
theorem rPointD_any (k : Int) (p : PtD) (w : World) (h : p.Ok w) : Calls Tryz.prog 68 #[.int .i64 k,p.v] w fun e w' => e = .returned (.bool (goodY k p.y)) ∧ Ext w w' :=
 rPoint_any k p.a p.c p.l p.r p.f p.M p.S p.m p.s p.t p.T w h.1 h.2.1 h.2.2.1 h.2.2.2.1.1 h.2.2.2.1.2 h.2.2.2.2.1 h.2.2.2.2.2
theorem rTenant_any (s : ByteArray) (w : World) (hs : s.size ≤ 9223372036854775807) :
  Calls Tryz.prog 35 #[.string s] w fun e w' => e = .returned (.bool (tenB s)) ∧ Ext w w' := by
 obtain ⟨R,hR⟩ : ∃ R,tenB s = R := ⟨_,rfl⟩
 rw [hR]
 unfold tenB at hR
 replace hR := Lib.hid hR
 go_enter Tryz.func35,Tryz.ntmps35
 go_wp2_with fail
 go_loopw [3] (fun i wr => ∃ k : Nat,i = .int .i64 k ∧ k ≤ s.size ∧ Hid (((bs s).drop k).all tenC = (bs s).all tenC) ∧ wr = w) (fun i _ => s.size - (intOf i).toNat)
 case atStart => exact ⟨0,rfl,Nat.zero_le _,Lib.hid rfl,rfl⟩
 case round =>
  obtain ⟨k,rfl,hk,hz,rfl⟩ := hrel
  by_cases hlt : k < s.size
  ·have hd := hz.out
   rw [drop_bs s k hlt,List.all_cons] at hd
   clear hz
   obtain ⟨c,hc⟩ : ∃ c,s[k].toNat = c := ⟨_,rfl⟩
   rw [hc] at hd
   have i0 : (k : Int) < (s.size : Int) := by omega
   by_cases h1 : 97 ≤ c
   ·by_cases h2 : c ≤ 122
    ·have j1 : (97 : Int) ≤ (s[k].toNat : Int) := by rw [hc]; omega
     have j2 : (s[k].toNat : Int) ≤ 122 := by rw [hc]; omega
     rw [show tenC c = true from by unfold tenC; simp; omega,Bool.true_and] at hd
     replace hd := Lib.hid hd
     clear hc h1 h2
     go_wp2_with fail
     go_roundw
     case rel => exact ⟨k + 1,rfl,hlt,hd,by first | trivial | rfl⟩
     case measure => simp only [intOf]; omega
    ·have j1 : (97 : Int) ≤ (s[k].toNat : Int) := by rw [hc]; omega
     have j2 : ¬ (s[k].toNat : Int) ≤ 122 := by rw [hc]; omega
     have j3 : (48 : Int) ≤ (s[k].toNat : Int) := by rw [hc]; omega
     have j4 : ¬ (s[k].toNat : Int) ≤ 57 := by rw [hc]; omega
     have e2 : ((s[k].toNat : Int) == 45) = false := by rw [hc]; simp; omega
     rw [show tenC c = false from by unfold tenC; simp; omega,Bool.false_and] at hd
     have HV : Hid (R = false) := Lib.hid (by rw [← hR.out,← hd,Bool.false_and])
     clear hc hd hR h1 h2
     go_wp2_with fail
     go_ret
     exact ⟨retB HV.out.symm,Ext.refl _⟩
   ·by_cases h2 : 48 ≤ c
    ·by_cases h3 : c ≤ 57
     ·have j1 : ¬ (97 : Int) ≤ (s[k].toNat : Int) := by rw [hc]; omega
      have j2 : (48 : Int) ≤ (s[k].toNat : Int) := by rw [hc]; omega
      have j3 : (s[k].toNat : Int) ≤ 57 := by rw [hc]; omega
      rw [show tenC c = true from by unfold tenC; simp; omega,Bool.true_and] at hd
      replace hd := Lib.hid hd
      clear hc h1 h2
      go_wp2_with fail
      go_roundw
      case rel => exact ⟨k + 1,rfl,hlt,hd,by first | trivial | rfl⟩
      case measure => simp only [intOf]; omega
     ·have j1 : ¬ (97 : Int) ≤ (s[k].toNat : Int) := by rw [hc]; omega
      have j2 : (48 : Int) ≤ (s[k].toNat : Int) := by rw [hc]; omega
      have j3 : ¬ (s[k].toNat : Int) ≤ 57 := by rw [hc]; omega
      have e2 : ((s[k].toNat : Int) == 45) = false := by rw [hc]; simp; omega
      rw [show tenC c = false from by unfold tenC; simp; omega,Bool.false_and] at hd
      have HV : Hid (R = false) := Lib.hid (by rw [← hR.out,← hd,Bool.false_and])
      clear hc hd hR h1 h2
      go_wp2_with fail
      go_ret
      exact ⟨retB HV.out.symm,Ext.refl _⟩
    ·by_cases h3 : c = 45
     ·have j1 : ¬ (97 : Int) ≤ (s[k].toNat : Int) := by rw [hc]; omega
      have j2 : ¬ (48 : Int) ≤ (s[k].toNat : Int) := by rw [hc]; omega
      have e2 : ((s[k].toNat : Int) == 45) = true := by rw [hc,h3]; rfl
      rw [show tenC c = true from by unfold tenC; simp; omega,Bool.true_and] at hd
      replace hd := Lib.hid hd
      clear hc h1 h2
      go_wp2_with fail
      go_roundw
      case rel => exact ⟨k + 1,rfl,hlt,hd,by first | trivial | rfl⟩
      case measure => simp only [intOf]; omega
     ·have j1 : ¬ (97 : Int) ≤ (s[k].toNat : Int) := by rw [hc]; omega
      have j2 : ¬ (48 : Int) ≤ (s[k].toNat : Int) := by rw [hc]; omega
      have e2 : ((s[k].toNat : Int) == 45) = false := by rw [hc]; simp; omega
      rw [show tenC c = false from by unfold tenC; simp; omega,Bool.false_and] at hd
      have HV : Hid (R = false) := Lib.hid (by rw [← hR.out,← hd,Bool.false_and])
      clear hc hd hR h1 h2
      go_wp2_with fail
      go_ret
      exact ⟨retB HV.out.symm,Ext.refl _⟩
  ·have hd := hz.out
   rw [drop_bs_nil s k (by omega)] at hd
   have hr := hR.out
   rw [← hd,show List.all [] tenC = true from rfl,Bool.true_and] at hr
   clear hR hd hz
   have hk2 : s.size ≤ k := by omega
   have i0 : ¬ (k : Int) < (s.size : Int) := by omega
   by_cases h0 : 0 < s.size
   ·rw [decide_eq_true h0,Bool.true_and] at hr
    have e0 : (1 : Int) ≤ (s.size : Int) := by omega
    have hr2 : Hid (decide ((s.size : Int) ≤ 16) = R) := Lib.hid (by rw [← hr]; exact decide_eq_decide.2 (by omega))
    clear hk hlt hr
    go_wp2_with fail
    go_ret
    exact ⟨retB hr2.out,Ext.refl _⟩
   ·rw [decide_eq_false h0,Bool.false_and] at hr
    have e0 : ¬ (1 : Int) ≤ (s.size : Int) := by omega
    replace hr := Lib.hid hr
    clear hk hlt h0
    go_wp2_with fail
    go_ret
    exact ⟨retB hr.out,Ext.refl _⟩
theorem rIsKind_any (k : Int) (w : World) : Calls Tryz.prog 66 #[.int .i64 k] w fun e w' => e = .returned (.bool (!(decide (k < 0 ∨ 4 < k)))) ∧ Ext w w' := by
 obtain ⟨R,hR⟩ : ∃ R,(!(decide (k < 0 ∨ 4 < k))) = R := ⟨_,rfl⟩
 rw [hR]
 by_cases h0 : 0 ≤ k
 ·have HV : Hid (decide (k ≤ 4) = R) := Lib.hid (by
   rw [← hR]
   by_cases h4 : k ≤ 4
   ·rw [decide_eq_true h4,decide_eq_false (by omega)]; rfl
   ·rw [decide_eq_false h4,decide_eq_true (by omega)]; rfl)
  clear hR
  go_enter Tryz.func66,Tryz.ntmps66
  go_wp2_with fail
  go_ret
  exact ⟨retB HV.out,Ext.refl _⟩
 ·have HV : Hid (false = R) := Lib.hid (by rw [← hR,decide_eq_true (by omega)]; rfl)
  clear hR
  go_enter Tryz.func66,Tryz.ntmps66
  go_wp2_with fail
  go_ret
  exact ⟨retB HV.out,Ext.refl _⟩
theorem rPoints_any (a : Option Addr) (c : Nat) (l : List FamD) (w : World) (hl : l.length ≤ 1000000) (hA : FamsA a l w) (hs : ∀ f ∈ l,f.y.Sm) :
  Calls Tryz.prog 15 #[.slice a l.length c] w fun e w' => e = .returned (.int .i64 (ptsN (l.map FamD.y) : Nat)) ∧ Ext w w' := by
 go_enter Tryz.func15,Tryz.ntmps15
 go_wp2_with fail
 go_loopw [3,4] (fun s i wr => ∃ k : Nat,i = .int .i64 k ∧ k ≤ l.length ∧ s = .int .i64 (ptsN ((l.map FamD.y).take k) : Nat) ∧ Ext w wr) (fun _ i _ => l.length - (intOf i).toNat)
 case atStart => exact ⟨0,rfl,Nat.zero_le _,rfl,Ext.refl _⟩
 case round =>
  obtain ⟨k,rfl,hk,rfl,xr⟩ := hrel
  by_cases hlt : k < l.length
  ·obtain ⟨b,o,rfl,hb,hL⟩ := hA.1 (by omega)
   obtain ⟨_,_,_,_,p4⟩ := hL k hlt
   have hN : Hid (ptsN ((l.map FamD.y).take (k + 1)) = ptsN ((l.map FamD.y).take k) + l[k].ps.length) := Lib.hid (by
    rw [List.take_add_one,List.getElem?_map,List.getElem?_eq_getElem hlt,Option.map_some,Option.toList_some,ptsN_append]
    simp [ptsN,FamD.y_len])
   have hB1 : ptsN ((l.map FamD.y).take k) ≤ 1000 * k := by
    have := ptsN_le ((l.map FamD.y).take k) (fun f hf => by obtain ⟨g,hg,rfl⟩ := List.mem_map.1 (List.mem_of_mem_take hf); exact hs g hg)
    rw [List.length_take,List.length_map] at this
    omega
   have hB2 : l[k].ps.length ≤ 1000 := (hs _ (List.getElem_mem hlt)).pl
   generalize l[k] = p at *
   obtain ⟨n,hn⟩ : ∃ n,ptsN ((l.map FamD.y).take k) = n := ⟨_,rfl⟩
   rw [hn] at hN hB1 ⊢
   replace p4 := (Ext.cell xr hb).trans p4
   have e1 : IntKind.i64.wrap ((n : Int) + (p.ps.length : Int)) = (n : Int) + (p.ps.length : Int) := IntWalk.i64_in _ (by omega)
   have i0 : (k : Int) < (l.length : Int) := by omega
   clear hL hA hs hn
   go_wp2_with fail
   go_roundw
   case rel => exact ⟨k + 1,rfl,hlt,by rw [hN.out]; rfl,xr⟩
   case measure => simp only [intOf]; omega
  ·obtain rfl : k = l.length := by omega
   rw [List.take_of_length_le (by simp)]
   clear hA hs
   go_wp2_with fail
   go_ret
   exact ⟨rfl,xr⟩
def famGo (k : Int) : Option PtK → List PtY → Bool
 | _,[] => true
 | none,y :: l => goodY k y && famGo k (some y.1) l
 | some x,y :: l => goodY k y && (decide (cmpK x y.1 < 0) && famGo k (some y.1) l)
theorem famGo_some (k : Int) : ∀ (l : List PtY) (x : PtK),famGo k (some x) l = (l.all (goodY k) && risesK (x :: l.map (fun y => y.1)))
 | [],x => by simp [famGo,risesK]
 | y :: l,x => by
   rw [famGo,famGo_some k l y.1,List.all_cons,List.map_cons,risesK]
   cases goodY k y <;> cases decide (cmpK x y.1 < 0) <;> cases l.all (goodY k) <;> rfl
theorem famGo_none (k : Int) (l : List PtY) : famGo k none l = (l.all (goodY k) && risesK (l.map (fun y => y.1))) := by
 cases l with
 | nil => rfl
 | cons y l =>
   rw [famGo,famGo_some k l y.1,List.all_cons,List.map_cons]
   cases goodY k y <;> rfl
theorem rFamily_any (f : FamD) (w : World) (hp : PtsA f.pa f.ps w) (hs : f.y.Sm) :
  Calls Tryz.prog 36 #[f.v] w fun e w' => e = .returned (.bool (goodF f.y)) ∧ Ext w w' := by
 obtain ⟨nm,kd,un,he,a,c,l⟩ := f
 have hl : l.length ≤ 1000 := hs.pl
 have N := fun W => rName_any nm W (by have := hs.n; have : nm.size ≤ 1000 := this; omega)
 have U := fun W => rValue_any un W (by have := hs.u; have : un.size ≤ 1000 := this; omega)
 have H := fun W => rValue_any he W (by have := hs.h; have : he.size ≤ 1000 := this; omega)
 have K := fun W => rIsKind_any kd W
 obtain ⟨R,hR⟩ : ∃ R,goodF (FamD.y ⟨nm,kd,un,he,a,c,l⟩) = R := ⟨_,rfl⟩
 rw [hR]
 replace hR : ((nameB nm && (!(decide (kd < 0 ∨ 4 < kd)) && (valueB un && valueB he))) && famGo kd none (l.map PtD.y)) = R := by rw [famGo_none]; exact hR
 change PtsA a l w at hp
 clear hs
 unfold FamD.v
 dsimp only
 generalize nameB nm = b1 at *
 generalize (!(decide (kd < 0 ∨ 4 < kd))) = b2 at *
 generalize valueB un = b3 at *
 generalize valueB he = b4 at *
 obtain ⟨W,hW⟩ : ∃ W,w.alloc (.cells #[.string nm,.int .i64 kd,.string un,.string he,.slice a l.length c] 35) = W := ⟨_,rfl⟩
 have x1 : Ext w W := by rw [← hW]; exact (Ext.refl w).alloc _
 have g1 : FamIn w.heap.size nm kd un he (.slice a l.length c) W := by rw [← hW]; exact heap_last _ _
 replace hW := Lib.hid hW
 obtain ⟨B,hB⟩ : ∃ B,w.heap.size = B := ⟨_,rfl⟩
 rw [hB] at g1
 obtain ⟨c0,c1,c2,c3,c4⟩ := g1.cells
 go_enter Tryz.func36,Tryz.ntmps36
 cases b1
 ·replace hR : Hid (false = R) := Lib.hid (by rw [← hR]; rfl)
  go_wp2_with fail
  rw [hW.out]
  (with_reducible refine (N _).mono ?_)
  rintro e w1 ⟨rfl,x2⟩
  go_wp2_with fail
  go_ret
  exact ⟨retB hR.out,x1.trans x2⟩
 cases b2
 ·replace hR : Hid (false = R) := Lib.hid (by rw [← hR]; rfl)
  go_wp2_with fail
  rw [hW.out]
  (with_reducible refine (N _).mono ?_)
  rintro e w1 ⟨rfl,x2⟩
  obtain ⟨c0,c1,c2,c3,c4⟩ := (g1.ext x2).cells
  go_wp2_with fail
  (with_reducible refine (K _).mono ?_)
  rintro e w2 ⟨rfl,x3⟩
  go_wp2_with fail
  go_ret
  exact ⟨retB hR.out,(x1.trans x2).trans x3⟩
 cases b3
 ·replace hR : Hid (false = R) := Lib.hid (by rw [← hR]; rfl)
  go_wp2_with fail
  rw [hW.out]
  (with_reducible refine (N _).mono ?_)
  rintro e w1 ⟨rfl,x2⟩
  obtain ⟨c0,c1,c2,c3,c4⟩ := (g1.ext x2).cells
  go_wp2_with fail
  (with_reducible refine (K _).mono ?_)
  rintro e w2 ⟨rfl,x3⟩
  obtain ⟨c0,c1,c2,c3,c4⟩ := (g1.ext (x2.trans x3)).cells
  go_wp2_with fail
  (with_reducible refine (U _).mono ?_)
  rintro e w3 ⟨rfl,x4⟩
  go_wp2_with fail
  go_ret
  exact ⟨retB hR.out,((x1.trans x2).trans x3).trans x4⟩
 go_wp2_with fail
 rw [hW.out]
 (with_reducible refine (N _).mono ?_)
 rintro e w1 ⟨rfl,x2⟩
 obtain ⟨c0,c1,c2,c3,c4⟩ := (g1.ext x2).cells
 go_wp2_with fail
 (with_reducible refine (K _).mono ?_)
 rintro e w2 ⟨rfl,x3⟩
 obtain ⟨c0,c1,c2,c3,c4⟩ := (g1.ext (x2.trans x3)).cells
 go_wp2_with fail
 (with_reducible refine (U _).mono ?_)
 rintro e w3 ⟨rfl,x4⟩
 obtain ⟨c0,c1,c2,c3,c4⟩ := (g1.ext ((x2.trans x3).trans x4)).cells
 go_wp2_with fail
 (with_reducible refine (H _).mono ?_)
 rintro e w4 ⟨rfl,x5⟩
 replace g1 := g1.ext (((x2.trans x3).trans x4).trans x5)
 have z1 := (((x1.trans x2).trans x3).trans x4).trans x5
 clear x1 x2 x3 x4 x5 hW N K U H c0 c1 c2 c3 c4
 cases b4
 ·replace hR : Hid (false = R) := Lib.hid (by rw [← hR]; rfl)
  go_wp2_with fail
  go_ret
  exact ⟨retB hR.out,z1⟩
 rw [show (true && (true && (true && true)) && famGo kd none (l.map PtD.y)) = famGo kd none (l.map PtD.y) from rfl] at hR
 go_wp2_with fail
 go_loopw [3] (fun i wr => ∃ k : Nat,i = .int .i64 k ∧ k ≤ l.length ∧ Hid (famGo kd (((l.map PtD.y).take k).getLast?.map (fun y => y.1)) ((l.map PtD.y).drop k) = R) ∧ Ext w4 wr) (fun i _ => l.length - (intOf i).toNat)
 case atStart => exact ⟨0,rfl,Nat.zero_le _,Lib.hid hR,Ext.refl _⟩
 case round =>
  obtain ⟨k,rfl,hk,hg,xr⟩ := hrel
  clear hR
  have gr := g1.ext xr
  replace hp := hp.ext (z1.trans xr)
  by_cases hlt : k < l.length
  ·obtain ⟨b,o,rfl,hbr,hL⟩ := hp.1 (by omega)
   have ok1 := hp.2 _ (List.getElem_mem hlt)
   obtain ⟨p0,p1,p2,p3,p4,p5,p6,p7,p8⟩ := hL k hlt
   have hd := hg.out
   have hlt' : k < (l.map PtD.y).length := by simpa using hlt
   have htl : (((l.map PtD.y).take (k + 1)).getLast?.map (fun y => y.1)) = some l[k].k := by
    rw [List.take_add_one,List.getElem?_eq_getElem hlt',Option.toList_some,List.getLast?_append]
    simp [PtD.y]
   rw [List.drop_eq_getElem_cons hlt',show (l.map PtD.y)[k] = l[k].y from by simp] at hd
   have RP := fun W (x : Ext wr W) => rPointD_any kd l[k] W (ok1.ext x)
   have i0 : (k : Int) < (l.length : Int) := by omega
   obtain ⟨gk,hgk⟩ : ∃ gk,goodY kd l[k].y = gk := ⟨_,rfl⟩
   rw [hgk] at RP
   obtain ⟨c0,c1,c2,c3,c4⟩ := gr.cells
   cases gk
   ·have HV : Hid (false = R) := Lib.hid (by
     rw [← hd]
     cases ((l.map PtD.y).take k).getLast?.map (fun y => y.1) <;> (rw [famGo,hgk]; rfl))
    clear hd hg htl
    generalize l[k] = p at *
    unfold PtD.v ptV at RP
    clear hp hL ok1 hgk
    go_wp2_with fail
    refine wp_region_held_drew (S := Ext wr) (by kernel_rfl) ((Ext.refl wr).drew) (fun hH => ?_)
    refine tk 0 rfl (by kernel_rfl) (fun _ _ _ h => h) rfl (fun w9 hS9 => by obtain ⟨c0,c1,c2,c3,c4⟩ := (gr.ext hS9).cells; go_simp; (try rfl)) hH ?_
    try simp only [Act.put,aT,aZ,aS]
    refine tk 1 rfl (by kernel_rfl) (fun _ _ _ h => h) rfl (fun w9 hS9 => by obtain ⟨c0,c1,c2,c3,c4⟩ := (gr.ext hS9).cells; go_simp; (try rfl)) hH ?_
    try simp only [Act.put,aT,aZ,aS]
    refine tk 2 rfl (by kernel_rfl) (fun _ _ _ h => h) rfl (fun w9 hS9 => by obtain ⟨c0,c1,c2,c3,c4⟩ := (gr.ext hS9).cells; go_simp; (try rfl)) hH ?_
    try simp only [Act.put,aT,aZ,aS]
    refine tk 3 rfl (by kernel_rfl) (fun _ _ _ h => h) rfl (fun w9 hS9 => by obtain ⟨c0,c1,c2,c3,c4⟩ := (gr.ext hS9).cells; go_simp; (try rfl)) hH ?_
    try simp only [Act.put,aT,aZ,aS]
    refine tk 4 rfl (by kernel_rfl) (fun _ _ _ h => h) rfl (fun w9 hS9 => by obtain ⟨c0,c1,c2,c3,c4⟩ := (gr.ext hS9).cells; go_simp; (try rfl)) hH ?_
    try simp only [Act.put,aT,aZ,aS]
    refine tk 5 rfl (by kernel_rfl) (fun _ _ _ h => h) rfl (fun w9 hS9 => by obtain ⟨c0,c1,c2,c3,c4⟩ := (gr.ext hS9).cells; go_simp; (try rfl)) hH ?_
    try simp only [Act.put,aT,aZ,aS]
    refine tk 6 rfl (by kernel_rfl) (fun _ _ _ h => h) rfl (fun w9 hS9 => by obtain ⟨c0,c1,c2,c3,c4⟩ := (gr.ext hS9).cells; go_simp; (try rfl)) hH ?_
    try simp only [Act.put,aT,aZ,aS]
    refine tk 7 rfl (by kernel_rfl) (fun _ _ _ h => h) rfl (fun w9 hS9 => by replace p0 := (Ext.cell hS9 hbr).trans p0; replace p1 := (Ext.cell hS9 hbr).trans p1; replace p2 := (Ext.cell hS9 hbr).trans p2; replace p3 := (Ext.cell hS9 hbr).trans p3; replace p4 := (Ext.cell hS9 hbr).trans p4; replace p5 := (Ext.cell hS9 hbr).trans p5; replace p6 := (Ext.cell hS9 hbr).trans p6; replace p7 := (Ext.cell hS9 hbr).trans p7; replace p8 := (Ext.cell hS9 hbr).trans p8; go_simp; (try rfl)) hH ?_
    try simp only [Act.put,aT,aZ,aS]
    refine wR (rs := [8]) (by kernel_rfl) (by simp) (aR rfl (fun K hK => ?_) aN)
    rw [if_pos (by rfl)]
    go_simp
    go_at_call 68
    (with_reducible refine (RP _ hH).mono ?_)
    rintro e wz ⟨rfl,xz⟩
    refine hK.out _ _ (hH.trans xz) (fun hH => ?_)
    clear hK K
    try simp only [aT,aZ,aS]
    refine tk 9 rfl (by kernel_rfl) (fun _ _ _ h => h) rfl (fun w9 hS9 => by go_simp; (try rfl)) hH ?_
    try simp only [Act.put,aT,aZ,aS]
    refine tk 10 rfl (by kernel_rfl) (fun _ _ _ h => h) rfl (fun w9 hS9 => by go_simp; (try rfl)) hH ?_
    try simp only [Act.put,aT,aZ,aS]
    refine tk0 11 rfl (by kernel_rfl) (fun _ _ _ h => h) rfl hH ?_
    try simp only [Act.put,aT,aZ,aS]
    refine tk0 12 rfl (by kernel_rfl) (fun _ _ _ h => h) rfl hH ?_
    try simp only [Act.put,aT,aZ,aS]
    refine tk0 13 rfl (by kernel_rfl) (fun _ _ _ h => h) rfl hH ?_
    try simp only [Act.put,aT,aZ,aS]
    refine tk0 14 rfl (by kernel_rfl) (fun _ _ _ h => h) rfl hH ?_
    try simp only [Act.put,aT,aZ,aS]
    refine tk0 15 rfl (by kernel_rfl) (fun _ _ _ h => h) rfl hH ?_
    try simp only [Act.put,aT,aZ,aS]
    refine tk0 16 rfl (by kernel_rfl) (fun _ _ _ h => h) rfl hH ?_
    try simp only [Act.put,aT,aZ,aS]
    refine tk0 17 rfl (by kernel_rfl) (fun _ _ _ h => h) rfl hH ?_
    try simp only [Act.put,aT,aZ,aS]
    refine tk0 18 rfl (by kernel_rfl) (fun _ _ _ h => h) rfl hH ?_
    try simp only [Act.put,aT,aZ,aS]
    refine tk0 19 rfl (by kernel_rfl) (fun _ _ _ h => h) rfl hH ?_
    try simp only [Act.put,aT,aZ,aS]
    refine tk0 20 rfl (by kernel_rfl) (fun _ _ _ h => h) rfl hH ?_
    try simp only [Act.put,aT,aZ,aS]
    refine tk0 21 rfl (by kernel_rfl) (fun _ _ _ h => h) rfl hH ?_
    try simp only [Act.put,aT,aZ,aS]
    refine tk0 22 rfl (by kernel_rfl) (fun _ _ _ h => h) rfl hH ?_
    try simp only [Act.put,aT,aZ,aS]
    refine tk0 23 rfl (by kernel_rfl) (fun _ _ _ h => h) rfl hH ?_
    try simp only [Act.put,aT,aZ,aS]
    refine tk0 24 rfl (by kernel_rfl) (fun _ _ _ h => h) rfl hH ?_
    try simp only [Act.put,aT,aZ,aS]
    refine tk0 25 rfl (by kernel_rfl) (fun _ _ _ h => h) rfl hH ?_
    try simp only [Act.put,aT,aZ,aS]
    refine tk0 26 rfl (by kernel_rfl) (fun _ _ _ h => h) rfl hH ?_
    try simp only [Act.put,aT,aZ,aS]
    refine tk0 27 rfl (by kernel_rfl) (fun _ _ _ h => h) rfl hH ?_
    try simp only [Act.put,aT,aZ,aS]
    refine tk 28 rfl (by kernel_rfl) (fun _ _ _ h => h) rfl (fun w9 hS9 => by go_simp; (try rfl)) hH ?_
    try simp only [Act.put,aT,aZ,aS]
    refine wpAnyH_done (by kernel_rfl) ?_ _
    go_wp2_with fail
    go_ret
    exact ⟨retB HV.out,(z1.trans xr).trans hH⟩
   ·cases k with
    | zero =>
      have hd2 : Hid (famGo kd (((l.map PtD.y).take (0 + 1)).getLast?.map (fun y => y.1)) ((l.map PtD.y).drop (0 + 1)) = R) := Lib.hid (by
       rw [htl,← hd]
       show _ = famGo kd none (l[0].y :: _)
       rw [famGo,hgk]
       rfl)
      clear hd hg htl
      generalize l[0] = p at *
      rw [Nat.zero_mul,Nat.add_zero] at p0 p1 p2 p3 p4 p5 p6 p7 p8
      unfold PtD.v ptV at RP
      clear hp hL ok1 hgk
      go_wp2_with fail
      refine wp_region_held_drew (S := Ext wr) (by kernel_rfl) ((Ext.refl wr).drew) (fun hH => ?_)
      refine tk 0 rfl (by kernel_rfl) (fun _ _ _ h => h) rfl (fun w9 hS9 => by obtain ⟨c0,c1,c2,c3,c4⟩ := (gr.ext hS9).cells; go_simp; (try rfl)) hH ?_
      try simp only [Act.put,aT,aZ,aS]
      refine tk 1 rfl (by kernel_rfl) (fun _ _ _ h => h) rfl (fun w9 hS9 => by obtain ⟨c0,c1,c2,c3,c4⟩ := (gr.ext hS9).cells; go_simp; (try rfl)) hH ?_
      try simp only [Act.put,aT,aZ,aS]
      refine tk 2 rfl (by kernel_rfl) (fun _ _ _ h => h) rfl (fun w9 hS9 => by obtain ⟨c0,c1,c2,c3,c4⟩ := (gr.ext hS9).cells; go_simp; (try rfl)) hH ?_
      try simp only [Act.put,aT,aZ,aS]
      refine tk 3 rfl (by kernel_rfl) (fun _ _ _ h => h) rfl (fun w9 hS9 => by obtain ⟨c0,c1,c2,c3,c4⟩ := (gr.ext hS9).cells; go_simp; (try rfl)) hH ?_
      try simp only [Act.put,aT,aZ,aS]
      refine tk 4 rfl (by kernel_rfl) (fun _ _ _ h => h) rfl (fun w9 hS9 => by obtain ⟨c0,c1,c2,c3,c4⟩ := (gr.ext hS9).cells; go_simp; (try rfl)) hH ?_
      try simp only [Act.put,aT,aZ,aS]
      refine tk 5 rfl (by kernel_rfl) (fun _ _ _ h => h) rfl (fun w9 hS9 => by obtain ⟨c0,c1,c2,c3,c4⟩ := (gr.ext hS9).cells; go_simp; (try rfl)) hH ?_
      try simp only [Act.put,aT,aZ,aS]
      refine tk 6 rfl (by kernel_rfl) (fun _ _ _ h => h) rfl (fun w9 hS9 => by obtain ⟨c0,c1,c2,c3,c4⟩ := (gr.ext hS9).cells; go_simp; (try rfl)) hH ?_
      try simp only [Act.put,aT,aZ,aS]
      refine tk 7 rfl (by kernel_rfl) (fun _ _ _ h => h) rfl (fun w9 hS9 => by replace p0 := (Ext.cell hS9 hbr).trans p0; replace p1 := (Ext.cell hS9 hbr).trans p1; replace p2 := (Ext.cell hS9 hbr).trans p2; replace p3 := (Ext.cell hS9 hbr).trans p3; replace p4 := (Ext.cell hS9 hbr).trans p4; replace p5 := (Ext.cell hS9 hbr).trans p5; replace p6 := (Ext.cell hS9 hbr).trans p6; replace p7 := (Ext.cell hS9 hbr).trans p7; replace p8 := (Ext.cell hS9 hbr).trans p8; go_simp; (try rfl)) hH ?_
      try simp only [Act.put,aT,aZ,aS]
      refine wR (rs := [8]) (by kernel_rfl) (by simp) (aR rfl (fun K hK => ?_) aN)
      rw [if_pos (by rfl)]
      go_simp
      go_at_call 68
      (with_reducible refine (RP _ hH).mono ?_)
      rintro e wz ⟨rfl,xz⟩
      refine hK.out _ _ (hH.trans xz) (fun hH => ?_)
      clear hK K
      try simp only [aT,aZ,aS]
      refine tk 9 rfl (by kernel_rfl) (fun _ _ _ h => h) rfl (fun w9 hS9 => by go_simp; (try rfl)) hH ?_
      try simp only [Act.put,aT,aZ,aS]
      refine tk 10 rfl (by kernel_rfl) (fun _ _ _ h => h) rfl (fun w9 hS9 => by go_simp; (try rfl)) hH ?_
      try simp only [Act.put,aT,aZ,aS]
      refine tk 11 rfl (by kernel_rfl) (fun _ _ _ h => h) rfl (fun w9 hS9 => by go_simp; (try rfl)) hH ?_
      try simp only [Act.put,aT,aZ,aS]
      refine tk 12 rfl (by kernel_rfl) (fun _ _ _ h => h) rfl (fun w9 hS9 => by go_simp; (try rfl)) hH ?_
      try simp only [Act.put,aT,aZ,aS]
      refine tk 13 rfl (by kernel_rfl) (fun _ _ _ h => h) rfl (fun w9 hS9 => by go_simp; (try rfl)) hH ?_
      try simp only [Act.put,aT,aZ,aS]
      refine tk0 14 rfl (by kernel_rfl) (fun _ _ _ h => h) rfl hH ?_
      try simp only [Act.put,aT,aZ,aS]
      refine tk0 15 rfl (by kernel_rfl) (fun _ _ _ h => h) rfl hH ?_
      try simp only [Act.put,aT,aZ,aS]
      refine tk0 16 rfl (by kernel_rfl) (fun _ _ _ h => h) rfl hH ?_
      try simp only [Act.put,aT,aZ,aS]
      refine tk0 17 rfl (by kernel_rfl) (fun _ _ _ h => h) rfl hH ?_
      try simp only [Act.put,aT,aZ,aS]
      refine tk0 18 rfl (by kernel_rfl) (fun _ _ _ h => h) rfl hH ?_
      try simp only [Act.put,aT,aZ,aS]
      refine tk0 19 rfl (by kernel_rfl) (fun _ _ _ h => h) rfl hH ?_
      try simp only [Act.put,aT,aZ,aS]
      refine tk0 20 rfl (by kernel_rfl) (fun _ _ _ h => h) rfl hH ?_
      try simp only [Act.put,aT,aZ,aS]
      refine tk0 21 rfl (by kernel_rfl) (fun _ _ _ h => h) rfl hH ?_
      try simp only [Act.put,aT,aZ,aS]
      refine tk0 22 rfl (by kernel_rfl) (fun _ _ _ h => h) rfl hH ?_
      try simp only [Act.put,aT,aZ,aS]
      refine tk0 23 rfl (by kernel_rfl) (fun _ _ _ h => h) rfl hH ?_
      try simp only [Act.put,aT,aZ,aS]
      refine tk0 24 rfl (by kernel_rfl) (fun _ _ _ h => h) rfl hH ?_
      try simp only [Act.put,aT,aZ,aS]
      refine tk0 25 rfl (by kernel_rfl) (fun _ _ _ h => h) rfl hH ?_
      try simp only [Act.put,aT,aZ,aS]
      refine tk0 26 rfl (by kernel_rfl) (fun _ _ _ h => h) rfl hH ?_
      try simp only [Act.put,aT,aZ,aS]
      refine tk 27 rfl (by kernel_rfl) (fun _ _ _ h => h) rfl (fun w9 hS9 => by go_simp; (try rfl)) hH ?_
      try simp only [Act.put,aT,aZ,aS]
      refine tk 28 rfl (by kernel_rfl) (fun _ _ _ h => h) rfl (fun w9 hS9 => by go_simp; (try rfl)) hH ?_
      try simp only [Act.put,aT,aZ,aS]
      refine wpAnyH_done (by kernel_rfl) ?_ _
      go_wp2_with fail
      go_roundw
      case rel => exact ⟨0 + 1,rfl,hlt,hd2,xr.trans hH⟩
      case measure => simp only [intOf]; omega
    | succ j =>
      have hj : j < l.length := by omega
      have hj' : j < (l.map PtD.y).length := by simpa using hj
      have hpr : (((l.map PtD.y).take (j + 1)).getLast?.map (fun y => y.1)) = some l[j].k := by
       rw [List.take_add_one,List.getElem?_eq_getElem hj',Option.toList_some,List.getLast?_append]
       simp [PtD.y]
      rw [hpr,famGo,hgk,Bool.true_and] at hd
      have ok2 := hp.2 _ (List.getElem_mem hj)
      obtain ⟨q0,q1,q2,q3,q4,q5,q6,q7,q8⟩ := hL j hj
      have CP := fun W (x : Ext wr W) => rcmpD_any l[j] l[j + 1] W (ok2.ext x) (ok1.ext x)
      obtain ⟨cv,hcv⟩ : ∃ cv,cmpK l[j].k l[j + 1].k = cv := ⟨_,rfl⟩
      rw [show l[j + 1].y.1 = l[j + 1].k from rfl] at hd
      rw [hcv] at CP hd
      have hd3 : Hid (decide (cv < 0) = true → famGo kd (((l.map PtD.y).take (j + 1 + 1)).getLast?.map (fun y => y.1)) ((l.map PtD.y).drop (j + 1 + 1)) = R) := Lib.hid (fun h => by rw [htl,← hd,h,Bool.true_and])
      have hd4 : Hid (decide (cv < 0) = false → false = R) := Lib.hid (fun h => by rw [← hd,h,Bool.false_and])
      have i1 : IntKind.i64.wrap (j : Int) = (j : Int) := IntWalk.i64_in _ (by omega)
      have i2 : (j : Int) < (l.length : Int) := by omega
      have i3 : (0 : Int) < (j : Int) + 1 := by omega
      have i4 : (0 : Int) ≤ (j : Int) + 1 := by omega
      have i5 : (j : Int) + 1 < (l.length : Int) := by omega
      clear hd hg htl hpr
      generalize l[j + 1] = p at *
      generalize l[j] = q at *
      unfold PtD.v ptV at RP CP
      clear hp hL ok1 ok2 hgk hcv
      by_cases h0 : cv < 0
      ·have hd5 := Lib.hid (hd3.out (decide_eq_true h0))
       have i6 : ¬ cv ≥ 0 := by omega
       clear hd3 hd4
       go_wp2_with fail
       refine wp_region_held_drew (S := Ext wr) (by kernel_rfl) ((Ext.refl wr).drew) (fun hH => ?_)
       refine tk 0 rfl (by kernel_rfl) (fun _ _ _ h => h) rfl (fun w9 hS9 => by obtain ⟨c0,c1,c2,c3,c4⟩ := (gr.ext hS9).cells; go_simp; (try rfl)) hH ?_
       try simp only [Act.put,aT,aZ,aS]
       refine tk 1 rfl (by kernel_rfl) (fun _ _ _ h => h) rfl (fun w9 hS9 => by obtain ⟨c0,c1,c2,c3,c4⟩ := (gr.ext hS9).cells; go_simp; (try rfl)) hH ?_
       try simp only [Act.put,aT,aZ,aS]
       refine tk 2 rfl (by kernel_rfl) (fun _ _ _ h => h) rfl (fun w9 hS9 => by obtain ⟨c0,c1,c2,c3,c4⟩ := (gr.ext hS9).cells; go_simp; (try rfl)) hH ?_
       try simp only [Act.put,aT,aZ,aS]
       refine tk 3 rfl (by kernel_rfl) (fun _ _ _ h => h) rfl (fun w9 hS9 => by obtain ⟨c0,c1,c2,c3,c4⟩ := (gr.ext hS9).cells; go_simp; (try rfl)) hH ?_
       try simp only [Act.put,aT,aZ,aS]
       refine tk 4 rfl (by kernel_rfl) (fun _ _ _ h => h) rfl (fun w9 hS9 => by obtain ⟨c0,c1,c2,c3,c4⟩ := (gr.ext hS9).cells; go_simp; (try rfl)) hH ?_
       try simp only [Act.put,aT,aZ,aS]
       refine tk 5 rfl (by kernel_rfl) (fun _ _ _ h => h) rfl (fun w9 hS9 => by obtain ⟨c0,c1,c2,c3,c4⟩ := (gr.ext hS9).cells; go_simp; (try rfl)) hH ?_
       try simp only [Act.put,aT,aZ,aS]
       refine tk 6 rfl (by kernel_rfl) (fun _ _ _ h => h) rfl (fun w9 hS9 => by obtain ⟨c0,c1,c2,c3,c4⟩ := (gr.ext hS9).cells; go_simp; (try rfl)) hH ?_
       try simp only [Act.put,aT,aZ,aS]
       refine tk 7 rfl (by kernel_rfl) (fun _ _ _ h => h) rfl (fun w9 hS9 => by replace p0 := (Ext.cell hS9 hbr).trans p0; replace p1 := (Ext.cell hS9 hbr).trans p1; replace p2 := (Ext.cell hS9 hbr).trans p2; replace p3 := (Ext.cell hS9 hbr).trans p3; replace p4 := (Ext.cell hS9 hbr).trans p4; replace p5 := (Ext.cell hS9 hbr).trans p5; replace p6 := (Ext.cell hS9 hbr).trans p6; replace p7 := (Ext.cell hS9 hbr).trans p7; replace p8 := (Ext.cell hS9 hbr).trans p8; go_simp; (try rfl)) hH ?_
       try simp only [Act.put,aT,aZ,aS]
       refine wR (rs := [8]) (by kernel_rfl) (by simp) (aR rfl (fun K hK => ?_) aN)
       rw [if_pos (by rfl)]
       go_simp
       go_at_call 68
       (with_reducible refine (RP _ hH).mono ?_)
       rintro e wz ⟨rfl,xz⟩
       refine hK.out _ _ (hH.trans xz) (fun hH => ?_)
       clear hK K
       try simp only [aT,aZ,aS]
       refine tk 9 rfl (by kernel_rfl) (fun _ _ _ h => h) rfl (fun w9 hS9 => by go_simp; (try rfl)) hH ?_
       try simp only [Act.put,aT,aZ,aS]
       refine tk 10 rfl (by kernel_rfl) (fun _ _ _ h => h) rfl (fun w9 hS9 => by go_simp; (try rfl)) hH ?_
       try simp only [Act.put,aT,aZ,aS]
       refine tk 11 rfl (by kernel_rfl) (fun _ _ _ h => h) rfl (fun w9 hS9 => by obtain ⟨c0,c1,c2,c3,c4⟩ := (gr.ext hS9).cells; go_simp; (try rfl)) hH ?_
       try simp only [Act.put,aT,aZ,aS]
       refine tk 12 rfl (by kernel_rfl) (fun _ _ _ h => h) rfl (fun w9 hS9 => by obtain ⟨c0,c1,c2,c3,c4⟩ := (gr.ext hS9).cells; go_simp; (try rfl)) hH ?_
       try simp only [Act.put,aT,aZ,aS]
       refine tk 13 rfl (by kernel_rfl) (fun _ _ _ h => h) rfl (fun w9 hS9 => by obtain ⟨c0,c1,c2,c3,c4⟩ := (gr.ext hS9).cells; go_simp; (try rfl)) hH ?_
       try simp only [Act.put,aT,aZ,aS]
       refine tk 14 rfl (by kernel_rfl) (fun _ _ _ h => h) rfl (fun w9 hS9 => by obtain ⟨c0,c1,c2,c3,c4⟩ := (gr.ext hS9).cells; go_simp; (try rfl)) hH ?_
       try simp only [Act.put,aT,aZ,aS]
       refine tk 15 rfl (by kernel_rfl) (fun _ _ _ h => h) rfl (fun w9 hS9 => by obtain ⟨c0,c1,c2,c3,c4⟩ := (gr.ext hS9).cells; go_simp; (try rfl)) hH ?_
       try simp only [Act.put,aT,aZ,aS]
       refine tk 16 rfl (by kernel_rfl) (fun _ _ _ h => h) rfl (fun w9 hS9 => by obtain ⟨c0,c1,c2,c3,c4⟩ := (gr.ext hS9).cells; go_simp; (try rfl)) hH ?_
       try simp only [Act.put,aT,aZ,aS]
       refine tk 17 rfl (by kernel_rfl) (fun _ _ _ h => h) rfl (fun w9 hS9 => by obtain ⟨c0,c1,c2,c3,c4⟩ := (gr.ext hS9).cells; go_simp; (try rfl)) hH ?_
       try simp only [Act.put,aT,aZ,aS]
       refine tk 18 rfl (by kernel_rfl) (fun _ _ _ h => h) rfl (fun w9 hS9 => by obtain ⟨c0,c1,c2,c3,c4⟩ := (gr.ext hS9).cells; go_simp; (try rfl)) hH ?_
       try simp only [Act.put,aT,aZ,aS]
       refine tk 19 rfl (by kernel_rfl) (fun _ _ _ h => h) rfl (fun w9 hS9 => by replace q0 := (Ext.cell hS9 hbr).trans q0; replace q1 := (Ext.cell hS9 hbr).trans q1; replace q2 := (Ext.cell hS9 hbr).trans q2; replace q3 := (Ext.cell hS9 hbr).trans q3; replace q4 := (Ext.cell hS9 hbr).trans q4; replace q5 := (Ext.cell hS9 hbr).trans q5; replace q6 := (Ext.cell hS9 hbr).trans q6; replace q7 := (Ext.cell hS9 hbr).trans q7; replace q8 := (Ext.cell hS9 hbr).trans q8; go_simp; (try rfl)) hH ?_
       try simp only [Act.put,aT,aZ,aS]
       refine tk 20 rfl (by kernel_rfl) (fun _ _ _ h => h) rfl (fun w9 hS9 => by obtain ⟨c0,c1,c2,c3,c4⟩ := (gr.ext hS9).cells; go_simp; (try rfl)) hH ?_
       try simp only [Act.put,aT,aZ,aS]
       refine tk 21 rfl (by kernel_rfl) (fun _ _ _ h => h) rfl (fun w9 hS9 => by obtain ⟨c0,c1,c2,c3,c4⟩ := (gr.ext hS9).cells; go_simp; (try rfl)) hH ?_
       try simp only [Act.put,aT,aZ,aS]
       refine tk 22 rfl (by kernel_rfl) (fun _ _ _ h => h) rfl (fun w9 hS9 => by obtain ⟨c0,c1,c2,c3,c4⟩ := (gr.ext hS9).cells; go_simp; (try rfl)) hH ?_
       try simp only [Act.put,aT,aZ,aS]
       refine tk 23 rfl (by kernel_rfl) (fun _ _ _ h => h) rfl (fun w9 hS9 => by obtain ⟨c0,c1,c2,c3,c4⟩ := (gr.ext hS9).cells; go_simp; (try rfl)) hH ?_
       try simp only [Act.put,aT,aZ,aS]
       refine tk 24 rfl (by kernel_rfl) (fun _ _ _ h => h) rfl (fun w9 hS9 => by replace p0 := (Ext.cell hS9 hbr).trans p0; replace p1 := (Ext.cell hS9 hbr).trans p1; replace p2 := (Ext.cell hS9 hbr).trans p2; replace p3 := (Ext.cell hS9 hbr).trans p3; replace p4 := (Ext.cell hS9 hbr).trans p4; replace p5 := (Ext.cell hS9 hbr).trans p5; replace p6 := (Ext.cell hS9 hbr).trans p6; replace p7 := (Ext.cell hS9 hbr).trans p7; replace p8 := (Ext.cell hS9 hbr).trans p8; go_simp; (try rfl)) hH ?_
       try simp only [Act.put,aT,aZ,aS]
       refine wR (rs := [25]) (by kernel_rfl) (by simp) (aR rfl (fun K hK => ?_) aN)
       rw [if_pos (by rfl)]
       go_simp
       go_at_call 34
       (with_reducible refine (CP _ hH).mono ?_)
       rintro e wz ⟨rfl,xz⟩
       refine hK.out _ _ (hH.trans xz) (fun hH => ?_)
       clear hK K
       try simp only [aT,aZ,aS]
       refine tk 26 rfl (by kernel_rfl) (fun _ _ _ h => h) rfl (fun w9 hS9 => by go_simp; (try rfl)) hH ?_
       try simp only [Act.put,aT,aZ,aS]
       refine tk 27 rfl (by kernel_rfl) (fun _ _ _ h => h) rfl (fun w9 hS9 => by go_simp; (try rfl)) hH ?_
       try simp only [Act.put,aT,aZ,aS]
       refine tk 28 rfl (by kernel_rfl) (fun _ _ _ h => h) rfl (fun w9 hS9 => by go_simp; (try rfl)) hH ?_
       try simp only [Act.put,aT,aZ,aS]
       refine wpAnyH_done (by kernel_rfl) ?_ _
       go_wp2_with fail
       go_roundw
       case rel => exact ⟨j + 1 + 1,rfl,hlt,hd5,xr.trans hH⟩
       case measure => simp only [intOf]; omega
      ·have hd5 := Lib.hid (hd4.out (decide_eq_false h0))
       have i6 : cv ≥ 0 := by omega
       clear hd3 hd4
       go_wp2_with fail
       refine wp_region_held_drew (S := Ext wr) (by kernel_rfl) ((Ext.refl wr).drew) (fun hH => ?_)
       refine tk 0 rfl (by kernel_rfl) (fun _ _ _ h => h) rfl (fun w9 hS9 => by obtain ⟨c0,c1,c2,c3,c4⟩ := (gr.ext hS9).cells; go_simp; (try rfl)) hH ?_
       try simp only [Act.put,aT,aZ,aS]
       refine tk 1 rfl (by kernel_rfl) (fun _ _ _ h => h) rfl (fun w9 hS9 => by obtain ⟨c0,c1,c2,c3,c4⟩ := (gr.ext hS9).cells; go_simp; (try rfl)) hH ?_
       try simp only [Act.put,aT,aZ,aS]
       refine tk 2 rfl (by kernel_rfl) (fun _ _ _ h => h) rfl (fun w9 hS9 => by obtain ⟨c0,c1,c2,c3,c4⟩ := (gr.ext hS9).cells; go_simp; (try rfl)) hH ?_
       try simp only [Act.put,aT,aZ,aS]
       refine tk 3 rfl (by kernel_rfl) (fun _ _ _ h => h) rfl (fun w9 hS9 => by obtain ⟨c0,c1,c2,c3,c4⟩ := (gr.ext hS9).cells; go_simp; (try rfl)) hH ?_
       try simp only [Act.put,aT,aZ,aS]
       refine tk 4 rfl (by kernel_rfl) (fun _ _ _ h => h) rfl (fun w9 hS9 => by obtain ⟨c0,c1,c2,c3,c4⟩ := (gr.ext hS9).cells; go_simp; (try rfl)) hH ?_
       try simp only [Act.put,aT,aZ,aS]
       refine tk 5 rfl (by kernel_rfl) (fun _ _ _ h => h) rfl (fun w9 hS9 => by obtain ⟨c0,c1,c2,c3,c4⟩ := (gr.ext hS9).cells; go_simp; (try rfl)) hH ?_
       try simp only [Act.put,aT,aZ,aS]
       refine tk 6 rfl (by kernel_rfl) (fun _ _ _ h => h) rfl (fun w9 hS9 => by obtain ⟨c0,c1,c2,c3,c4⟩ := (gr.ext hS9).cells; go_simp; (try rfl)) hH ?_
       try simp only [Act.put,aT,aZ,aS]
       refine tk 7 rfl (by kernel_rfl) (fun _ _ _ h => h) rfl (fun w9 hS9 => by replace p0 := (Ext.cell hS9 hbr).trans p0; replace p1 := (Ext.cell hS9 hbr).trans p1; replace p2 := (Ext.cell hS9 hbr).trans p2; replace p3 := (Ext.cell hS9 hbr).trans p3; replace p4 := (Ext.cell hS9 hbr).trans p4; replace p5 := (Ext.cell hS9 hbr).trans p5; replace p6 := (Ext.cell hS9 hbr).trans p6; replace p7 := (Ext.cell hS9 hbr).trans p7; replace p8 := (Ext.cell hS9 hbr).trans p8; go_simp; (try rfl)) hH ?_
       try simp only [Act.put,aT,aZ,aS]
       refine wR (rs := [8]) (by kernel_rfl) (by simp) (aR rfl (fun K hK => ?_) aN)
       rw [if_pos (by rfl)]
       go_simp
       go_at_call 68
       (with_reducible refine (RP _ hH).mono ?_)
       rintro e wz ⟨rfl,xz⟩
       refine hK.out _ _ (hH.trans xz) (fun hH => ?_)
       clear hK K
       try simp only [aT,aZ,aS]
       refine tk 9 rfl (by kernel_rfl) (fun _ _ _ h => h) rfl (fun w9 hS9 => by go_simp; (try rfl)) hH ?_
       try simp only [Act.put,aT,aZ,aS]
       refine tk 10 rfl (by kernel_rfl) (fun _ _ _ h => h) rfl (fun w9 hS9 => by go_simp; (try rfl)) hH ?_
       try simp only [Act.put,aT,aZ,aS]
       refine tk 11 rfl (by kernel_rfl) (fun _ _ _ h => h) rfl (fun w9 hS9 => by obtain ⟨c0,c1,c2,c3,c4⟩ := (gr.ext hS9).cells; go_simp; (try rfl)) hH ?_
       try simp only [Act.put,aT,aZ,aS]
       refine tk 12 rfl (by kernel_rfl) (fun _ _ _ h => h) rfl (fun w9 hS9 => by obtain ⟨c0,c1,c2,c3,c4⟩ := (gr.ext hS9).cells; go_simp; (try rfl)) hH ?_
       try simp only [Act.put,aT,aZ,aS]
       refine tk 13 rfl (by kernel_rfl) (fun _ _ _ h => h) rfl (fun w9 hS9 => by obtain ⟨c0,c1,c2,c3,c4⟩ := (gr.ext hS9).cells; go_simp; (try rfl)) hH ?_
       try simp only [Act.put,aT,aZ,aS]
       refine tk 14 rfl (by kernel_rfl) (fun _ _ _ h => h) rfl (fun w9 hS9 => by obtain ⟨c0,c1,c2,c3,c4⟩ := (gr.ext hS9).cells; go_simp; (try rfl)) hH ?_
       try simp only [Act.put,aT,aZ,aS]
       refine tk 15 rfl (by kernel_rfl) (fun _ _ _ h => h) rfl (fun w9 hS9 => by obtain ⟨c0,c1,c2,c3,c4⟩ := (gr.ext hS9).cells; go_simp; (try rfl)) hH ?_
       try simp only [Act.put,aT,aZ,aS]
       refine tk 16 rfl (by kernel_rfl) (fun _ _ _ h => h) rfl (fun w9 hS9 => by obtain ⟨c0,c1,c2,c3,c4⟩ := (gr.ext hS9).cells; go_simp; (try rfl)) hH ?_
       try simp only [Act.put,aT,aZ,aS]
       refine tk 17 rfl (by kernel_rfl) (fun _ _ _ h => h) rfl (fun w9 hS9 => by obtain ⟨c0,c1,c2,c3,c4⟩ := (gr.ext hS9).cells; go_simp; (try rfl)) hH ?_
       try simp only [Act.put,aT,aZ,aS]
       refine tk 18 rfl (by kernel_rfl) (fun _ _ _ h => h) rfl (fun w9 hS9 => by obtain ⟨c0,c1,c2,c3,c4⟩ := (gr.ext hS9).cells; go_simp; (try rfl)) hH ?_
       try simp only [Act.put,aT,aZ,aS]
       refine tk 19 rfl (by kernel_rfl) (fun _ _ _ h => h) rfl (fun w9 hS9 => by replace q0 := (Ext.cell hS9 hbr).trans q0; replace q1 := (Ext.cell hS9 hbr).trans q1; replace q2 := (Ext.cell hS9 hbr).trans q2; replace q3 := (Ext.cell hS9 hbr).trans q3; replace q4 := (Ext.cell hS9 hbr).trans q4; replace q5 := (Ext.cell hS9 hbr).trans q5; replace q6 := (Ext.cell hS9 hbr).trans q6; replace q7 := (Ext.cell hS9 hbr).trans q7; replace q8 := (Ext.cell hS9 hbr).trans q8; go_simp; (try rfl)) hH ?_
       try simp only [Act.put,aT,aZ,aS]
       refine tk 20 rfl (by kernel_rfl) (fun _ _ _ h => h) rfl (fun w9 hS9 => by obtain ⟨c0,c1,c2,c3,c4⟩ := (gr.ext hS9).cells; go_simp; (try rfl)) hH ?_
       try simp only [Act.put,aT,aZ,aS]
       refine tk 21 rfl (by kernel_rfl) (fun _ _ _ h => h) rfl (fun w9 hS9 => by obtain ⟨c0,c1,c2,c3,c4⟩ := (gr.ext hS9).cells; go_simp; (try rfl)) hH ?_
       try simp only [Act.put,aT,aZ,aS]
       refine tk 22 rfl (by kernel_rfl) (fun _ _ _ h => h) rfl (fun w9 hS9 => by obtain ⟨c0,c1,c2,c3,c4⟩ := (gr.ext hS9).cells; go_simp; (try rfl)) hH ?_
       try simp only [Act.put,aT,aZ,aS]
       refine tk 23 rfl (by kernel_rfl) (fun _ _ _ h => h) rfl (fun w9 hS9 => by obtain ⟨c0,c1,c2,c3,c4⟩ := (gr.ext hS9).cells; go_simp; (try rfl)) hH ?_
       try simp only [Act.put,aT,aZ,aS]
       refine tk 24 rfl (by kernel_rfl) (fun _ _ _ h => h) rfl (fun w9 hS9 => by replace p0 := (Ext.cell hS9 hbr).trans p0; replace p1 := (Ext.cell hS9 hbr).trans p1; replace p2 := (Ext.cell hS9 hbr).trans p2; replace p3 := (Ext.cell hS9 hbr).trans p3; replace p4 := (Ext.cell hS9 hbr).trans p4; replace p5 := (Ext.cell hS9 hbr).trans p5; replace p6 := (Ext.cell hS9 hbr).trans p6; replace p7 := (Ext.cell hS9 hbr).trans p7; replace p8 := (Ext.cell hS9 hbr).trans p8; go_simp; (try rfl)) hH ?_
       try simp only [Act.put,aT,aZ,aS]
       refine wR (rs := [25]) (by kernel_rfl) (by simp) (aR rfl (fun K hK => ?_) aN)
       rw [if_pos (by rfl)]
       go_simp
       go_at_call 34
       (with_reducible refine (CP _ hH).mono ?_)
       rintro e wz ⟨rfl,xz⟩
       refine hK.out _ _ (hH.trans xz) (fun hH => ?_)
       clear hK K
       try simp only [aT,aZ,aS]
       refine tk 26 rfl (by kernel_rfl) (fun _ _ _ h => h) rfl (fun w9 hS9 => by go_simp; (try rfl)) hH ?_
       try simp only [Act.put,aT,aZ,aS]
       refine tk 27 rfl (by kernel_rfl) (fun _ _ _ h => h) rfl (fun w9 hS9 => by go_simp; (try rfl)) hH ?_
       try simp only [Act.put,aT,aZ,aS]
       refine tk 28 rfl (by kernel_rfl) (fun _ _ _ h => h) rfl (fun w9 hS9 => by go_simp; (try rfl)) hH ?_
       try simp only [Act.put,aT,aZ,aS]
       refine wpAnyH_done (by kernel_rfl) ?_ _
       go_wp2_with fail
       go_ret
       exact ⟨retB hd5.out,(z1.trans xr).trans hH⟩
  ·have hd := hg.out
   rw [List.drop_eq_nil_of_le (by simp; omega)] at hd
   have hd2 : Hid (true = R) := Lib.hid (by
    rw [← hd]
    cases ((l.map PtD.y).take k).getLast?.map (fun y => y.1) <;> rfl)
   have i0 : ¬ (k : Int) < (l.length : Int) := by omega
   obtain ⟨c0,c1,c2,c3,c4⟩ := gr.cells
   clear hd hg hp
   go_wp2_with fail
   go_ret
   exact ⟨retB hd2.out,z1.trans xr⟩
end Go.Proofs.YtjjnmefihdjglaaGreat
