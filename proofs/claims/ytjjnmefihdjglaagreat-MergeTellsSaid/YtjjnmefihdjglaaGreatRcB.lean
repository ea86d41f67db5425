import Derived.Test.YtjjnmefihdjglaaGreatRcA
set_option maxRecDepth 100000
set_option maxHeartbeats 64000000
set_option linter.all false
namespace Go.Proofs.YtjjnmefihdjglaaGreat
open Go.RowKit
def famsGo : Option ByteArray → List FamY → Bool
 | _,[] => true
 | none,f :: l => goodF f && famsGo (some f.nm) l
 | some x,f :: l => goodF f && (decide (cmpS x f.nm < 0) && famsGo (some f.nm) l)
theorem famsGo_some : ∀ (l : List FamY) (x : ByteArray),famsGo (some x) l = (l.all goodF && risesN (x :: l.map FamY.nm))
 | [],x => by simp [famsGo,risesN]
 | f :: l,x => by
   rw [famsGo,famsGo_some l f.nm,List.all_cons,List.map_cons,risesN]
   cases goodF f <;> cases decide (cmpS x f.nm < 0) <;> cases l.all goodF <;> rfl
theorem famsGo_none (l : List FamY) : famsGo none l = (l.all goodF && risesN (l.map FamY.nm)) := by
 cases l with
 | nil => rfl
 | cons f l =>
   rw [famsGo,famsGo_some l f.nm,List.all_cons,List.map_cons]
   cases goodF f <;> rfl
theorem rCheck_any (tn : ByteArray) (a : Option Addr) (c : Nat) (l : List FamD) (w : World) (hl : l.length ≤ 1000000) (ht : tn.size ≤ 1000000) (hA : FamsA a l w) (hs : ∀ f ∈ l,f.y.Sm) :
  Calls Tryz.prog 16 #[.agg #[.string tn,.slice a l.length c]] w fun e w' => e = .returned (.int .i64 (checkB tn (l.map FamD.y))) ∧ Ext w w' := by
 have T := fun W => rTenant_any tn W (by omega)
 have PO := fun W (x : Ext w W) => rPoints_any a c l W hl (hA.ext x) hs
 obtain ⟨R,hR⟩ : ∃ R,checkB tn (l.map FamD.y) = R := ⟨_,rfl⟩
 rw [hR]
 replace hR : (if tenB tn = true ∧ famsGo none (l.map FamD.y) = true then (if l.length ≤ 30 ∧ ptsN (l.map FamD.y) ≤ 120 then 0 else 14) else 19) = R := by
  rw [← hR]
  unfold checkB
  rw [famsGo_none,List.length_map]
  simp only [Bool.and_eq_true]
 have hpb : ptsN (l.map FamD.y) ≤ 1000 * l.length := by
  have := ptsN_le (l.map FamD.y) (fun f hf => by obtain ⟨g,hg,rfl⟩ := List.mem_map.1 hf; exact hs g hg)
  rwa [List.length_map] at this
 obtain ⟨n,hn⟩ : ∃ n,ptsN (l.map FamD.y) = n := ⟨_,rfl⟩
 rw [hn] at hR PO hpb
 obtain ⟨G,hG⟩ : ∃ G,famsGo none (l.map FamD.y) = G := ⟨_,rfl⟩
 rw [hG] at hR
 obtain ⟨W,hW⟩ : ∃ W,w.alloc (.cells #[.string tn,.slice a l.length c] 27) = W := ⟨_,rfl⟩
 have x1 : Ext w W := by rw [← hW]; exact (Ext.refl w).alloc _
 have g1 : BatIn w.heap.size tn (.slice a l.length c) W := by rw [← hW]; exact heap_last _ _
 replace hW := Lib.hid hW
 obtain ⟨B,hB⟩ : ∃ B,w.heap.size = B := ⟨_,rfl⟩
 rw [hB] at g1
 obtain ⟨c0,c1⟩ := g1.cells
 generalize tenB tn = b1 at *
 clear hn
 go_enter Tryz.func16,Tryz.ntmps16
 go_wp2_with fail
 rw [hW.out]
 (with_reducible refine (T _).mono ?_)
 rintro e w1 ⟨rfl,x2⟩
 cases b1
 ·rw [if_neg (by simp)] at hR
  replace hR := Lib.hid hR
  go_wp2_with fail
  go_ret
  exact ⟨retI hR.out,x1.trans x2⟩
 replace g1 := g1.ext x2
 have z1 := x1.trans x2
 clear c0 c1 x1 x2 T hW
 replace hR := Lib.hid hR
 go_wp2_with fail
 go_loopw [3] (fun i wr => ∃ k : Nat,i = .int .i64 k ∧ k ≤ l.length ∧ Hid (famsGo (((l.map FamD.y).take k).getLast?.map FamY.nm) ((l.map FamD.y).drop k) = G) ∧ Ext w1 wr) (fun i _ => l.length - (intOf i).toNat)
 case atStart => exact ⟨0,rfl,Nat.zero_le _,Lib.hid hG,Ext.refl _⟩
 case round =>
  obtain ⟨k,rfl,hk,hg,xr⟩ := hrel
  clear hG
  have gr := g1.ext xr
  replace hA := hA.ext (z1.trans xr)
  obtain ⟨c0,c1⟩ := gr.cells
  by_cases hlt : k < l.length
  ·obtain ⟨b,o,rfl,hbr,hL⟩ := hA.1 (by omega)
   have ok1 := hA.2 _ (List.getElem_mem hlt)
   have sm1 := hs _ (List.getElem_mem hlt)
   obtain ⟨p0,p1,p2,p3,p4⟩ := hL k hlt
   have hd := hg.out
   have hlt' : k < (l.map FamD.y).length := by simpa using hlt
   have htl : (((l.map FamD.y).take (k + 1)).getLast?.map FamY.nm) = some l[k].nm := by
    rw [List.take_add_one,List.getElem?_eq_getElem hlt',Option.toList_some,List.getLast?_append]
    simp [FamD.y]
   rw [List.drop_eq_getElem_cons hlt',show (l.map FamD.y)[k] = l[k].y from by simp] at hd
   have RF := fun W (x : Ext wr W) => rFamily_any l[k] W (ok1.ext x) sm1
   have i0 : (k : Int) < (l.length : Int) := by omega
   obtain ⟨gk,hgk⟩ : ∃ gk,goodF l[k].y = gk := ⟨_,rfl⟩
   rw [hgk] at RF
   cases gk
   ·have HV : Hid (19 = R) := Lib.hid (by
     have hGf : G = false := by
      rw [← hd]
      cases ((l.map FamD.y).take k).getLast?.map FamY.nm <;> (rw [famsGo,hgk]; rfl)
     rw [← hR.out,hGf,if_neg (by simp)])
    clear hd hg htl hR PO
    generalize l[k] = p at *
    unfold FamD.v at RF
    clear hA hL ok1 sm1 hgk hs
    go_wp2_with fail
    refine wp_region_held_drew (S := Ext wr) (by kernel_rfl) ((Ext.refl wr).drew) (fun hH => ?_)
    refine tk 0 rfl (by kernel_rfl) (fun _ _ _ h => h) rfl (fun w9 hS9 => by obtain ⟨c0,c1⟩ := (gr.ext hS9).cells; go_simp; (try rfl)) hH ?_
    try simp only [Act.put,aT,aZ,aS]
    refine tk 1 rfl (by kernel_rfl) (fun _ _ _ h => h) rfl (fun w9 hS9 => by obtain ⟨c0,c1⟩ := (gr.ext hS9).cells; go_simp; (try rfl)) hH ?_
    try simp only [Act.put,aT,aZ,aS]
    refine tk 2 rfl (by kernel_rfl) (fun _ _ _ h => h) rfl (fun w9 hS9 => by obtain ⟨c0,c1⟩ := (gr.ext hS9).cells; go_simp; (try rfl)) hH ?_
    try simp only [Act.put,aT,aZ,aS]
    refine tk 3 rfl (by kernel_rfl) (fun _ _ _ h => h) rfl (fun w9 hS9 => by obtain ⟨c0,c1⟩ := (gr.ext hS9).cells; go_simp; (try rfl)) hH ?_
    try simp only [Act.put,aT,aZ,aS]
    refine tk 4 rfl (by kernel_rfl) (fun _ _ _ h => h) rfl (fun w9 hS9 => by replace p0 := (Ext.cell hS9 hbr).trans p0; replace p1 := (Ext.cell hS9 hbr).trans p1; replace p2 := (Ext.cell hS9 hbr).trans p2; replace p3 := (Ext.cell hS9 hbr).trans p3; replace p4 := (Ext.cell hS9 hbr).trans p4; go_simp; (try rfl)) hH ?_
    try simp only [Act.put,aT,aZ,aS]
    refine wR (rs := [5]) (by kernel_rfl) (by simp) (aR rfl (fun K hK => ?_) aN)
    rw [if_pos (by rfl)]
    go_simp
    go_at_call 36
    (with_reducible refine (RF _ hH).mono ?_)
    rintro e wz ⟨rfl,xz⟩
    refine hK.out _ _ (hH.trans xz) (fun hH => ?_)
    clear hK K
    try simp only [aT,aZ,aS]
    refine tk 6 rfl (by kernel_rfl) (fun _ _ _ h => h) rfl (fun w9 hS9 => by go_simp; (try rfl)) hH ?_
    try simp only [Act.put,aT,aZ,aS]
    refine tk 7 rfl (by kernel_rfl) (fun _ _ _ h => h) rfl (fun w9 hS9 => by go_simp; (try rfl)) hH ?_
    try simp only [Act.put,aT,aZ,aS]
    refine tk0 8 rfl (by kernel_rfl) (fun _ _ _ h => h) rfl hH ?_
    try simp only [Act.put,aT,aZ,aS]
    refine tk0 9 rfl (by kernel_rfl) (fun _ _ _ h => h) rfl hH ?_
    try simp only [Act.put,aT,aZ,aS]
    refine tk0 10 rfl (by kernel_rfl) (fun _ _ _ h => h) rfl hH ?_
    try simp only [Act.put,aT,aZ,aS]
    refine tk0 11 rfl (by kernel_rfl) (fun _ _ _ h => h) rfl hH ?_
    try simp only [Act.put,aT,aZ,aS]
    refine tk0 12 rfl (by kernel_rfl) (fun _ _ _ h => h) rfl hH ?_
    try simp only [Act.put,aT,aZ,aS]
    refine tk0 13 rfl (by kernel_rfl) (fun _ _ _ h => h) rfl hH ?_
    try simp only [Act.put,aT,aZ,aS]
    refine tk0 14 rfl (by kernel_rfl) (fun _ _ _ h => h) rfl hH ?_
    try simp only [Act.put,aT,aZ,aS]
    refine tk0 15 rfl (by kernel_rfl) (fun _ _ _ h => h) rfl hH ?_
    try simp only [Act.put,aT,aZ,aS]
    refine tk0 16 rfl (by kernel_rfl) (fun _ _ _ h => h) rfl hH ?_
    try simp only [Act.put,aT,aZ,aS]
    refine tk0 17 rfl (by kernel_rfl) (fun _ _ _ h => h) rfl hH ?_
    try simp only [Act.put,aT,aZ,aS]
    refine tk0 18 rfl (by kernel_rfl) (fun _ _ _ h => h) rfl hH ?_
    try simp only [Act.put,aT,aZ,aS]
    refine tk0 19 rfl (by kernel_rfl) (fun _ _ _ h => h) rfl hH ?_
    try simp only [Act.put,aT,aZ,aS]
    refine tk0 20 rfl (by kernel_rfl) (fun _ _ _ h => h) rfl hH ?_
    try simp only [Act.put,aT,aZ,aS]
    refine tk0 21 rfl (by kernel_rfl) (fun _ _ _ h => h) rfl hH ?_
    try simp only [Act.put,aT,aZ,aS]
    refine tk0 22 rfl (by kernel_rfl) (fun _ _ _ h => h) rfl hH ?_
    try simp only [Act.put,aT,aZ,aS]
    refine tk0 23 rfl (by kernel_rfl) (fun _ _ _ h => h) rfl hH ?_
    try simp only [Act.put,aT,aZ,aS]
    refine tk0 24 rfl (by kernel_rfl) (fun _ _ _ h => h) rfl hH ?_
    try simp only [Act.put,aT,aZ,aS]
    refine tk0 25 rfl (by kernel_rfl) (fun _ _ _ h => h) rfl hH ?_
    try simp only [Act.put,aT,aZ,aS]
    refine tk0 26 rfl (by kernel_rfl) (fun _ _ _ h => h) rfl hH ?_
    try simp only [Act.put,aT,aZ,aS]
    refine tk0 27 rfl (by kernel_rfl) (fun _ _ _ h => h) rfl hH ?_
    try simp only [Act.put,aT,aZ,aS]
    refine tk 28 rfl (by kernel_rfl) (fun _ _ _ h => h) rfl (fun w9 hS9 => by go_simp; (try rfl)) hH ?_
    try simp only [Act.put,aT,aZ,aS]
    refine wpAnyH_done (by kernel_rfl) ?_ _
    go_wp2_with fail
    go_ret
    exact ⟨retI HV.out,(z1.trans xr).trans hH⟩
   ·cases k with
    | zero =>
      have hd2 : Hid (famsGo (((l.map FamD.y).take (0 + 1)).getLast?.map FamY.nm) ((l.map FamD.y).drop (0 + 1)) = G) := Lib.hid (by
       rw [htl,← hd]
       show _ = famsGo none (l[0].y :: _)
       rw [famsGo,hgk]
       rfl)
      clear hd hg htl hR PO
      generalize l[0] = p at *
      rw [Nat.zero_mul,Nat.add_zero] at p0 p1 p2 p3 p4
      unfold FamD.v at RF
      clear hA hL ok1 sm1 hgk hs
      go_wp2_with fail
      refine wp_region_held_drew (S := Ext wr) (by kernel_rfl) ((Ext.refl wr).drew) (fun hH => ?_)
      refine tk 0 rfl (by kernel_rfl) (fun _ _ _ h => h) rfl (fun w9 hS9 => by obtain ⟨c0,c1⟩ := (gr.ext hS9).cells; go_simp; (try rfl)) hH ?_
      try simp only [Act.put,aT,aZ,aS]
      refine tk 1 rfl (by kernel_rfl) (fun _ _ _ h => h) rfl (fun w9 hS9 => by obtain ⟨c0,c1⟩ := (gr.ext hS9).cells; go_simp; (try rfl)) hH ?_
      try simp only [Act.put,aT,aZ,aS]
      refine tk 2 rfl (by kernel_rfl) (fun _ _ _ h => h) rfl (fun w9 hS9 => by obtain ⟨c0,c1⟩ := (gr.ext hS9).cells; go_simp; (try rfl)) hH ?_
      try simp only [Act.put,aT,aZ,aS]
      refine tk 3 rfl (by kernel_rfl) (fun _ _ _ h => h) rfl (fun w9 hS9 => by obtain ⟨c0,c1⟩ := (gr.ext hS9).cells; go_simp; (try rfl)) hH ?_
      try simp only [Act.put,aT,aZ,aS]
      refine tk 4 rfl (by kernel_rfl) (fun _ _ _ h => h) rfl (fun w9 hS9 => by replace p0 := (Ext.cell hS9 hbr).trans p0; replace p1 := (Ext.cell hS9 hbr).trans p1; replace p2 := (Ext.cell hS9 hbr).trans p2; replace p3 := (Ext.cell hS9 hbr).trans p3; replace p4 := (Ext.cell hS9 hbr).trans p4; go_simp; (try rfl)) hH ?_
      try simp only [Act.put,aT,aZ,aS]
      refine wR (rs := [5]) (by kernel_rfl) (by simp) (aR rfl (fun K hK => ?_) aN)
      rw [if_pos (by rfl)]
      go_simp
      go_at_call 36
      (with_reducible refine (RF _ hH).mono ?_)
      rintro e wz ⟨rfl,xz⟩
      refine hK.out _ _ (hH.trans xz) (fun hH => ?_)
      clear hK K
      try simp only [aT,aZ,aS]
      refine tk 6 rfl (by kernel_rfl) (fun _ _ _ h => h) rfl (fun w9 hS9 => by go_simp; (try rfl)) hH ?_
      try simp only [Act.put,aT,aZ,aS]
      refine tk 7 rfl (by kernel_rfl) (fun _ _ _ h => h) rfl (fun w9 hS9 => by go_simp; (try rfl)) hH ?_
      try simp only [Act.put,aT,aZ,aS]
      refine tk 8 rfl (by kernel_rfl) (fun _ _ _ h => h) rfl (fun w9 hS9 => by go_simp; (try rfl)) hH ?_
      try simp only [Act.put,aT,aZ,aS]
      refine tk 9 rfl (by kernel_rfl) (fun _ _ _ h => h) rfl (fun w9 hS9 => by go_simp; (try rfl)) hH ?_
      try simp only [Act.put,aT,aZ,aS]
      refine tk 10 rfl (by kernel_rfl) (fun _ _ _ h => h) rfl (fun w9 hS9 => by go_simp; (try rfl)) hH ?_
      try simp only [Act.put,aT,aZ,aS]
      refine tk0 11 rfl (by kernel_rfl) (fun _ _ _ h => h) rfl hH ?_
      try simp only [Act.put,aT,aZ,aS]
      refine tk0 12 rfl (by kernel_rfl) (fun _ _ _ h => h) rfl hH ?_
      try simp only [Act.put,aT,aZ,aS]
      refine tk0 13 rfl (by kernel_rfl) (fun _ _ _ h => h) rfl hH ?_
      try simp only [Act.put,aT,aZ,aS]
      refine tk0 14 rfl (by kernel_rfl) (fun _ _ _ h => h) rfl hH ?_
      try simp only [Act.put,aT,aZ,aS]
      refine tk0 15 rfl (by kernel_rfl) (fun _ _ _ h => h) rfl hH ?_
      try simp only [Act.put,aT,aZ,aS]
      refine tk0 16 rfl (by kernel_rfl) (fun _ _ _ h => h) rfl hH ?_
      try simp only [Act.put,aT,aZ,aS]
      refine tk0 17 rfl (by kernel_rfl) (fun _ _ _ h => h) rfl hH ?_
      try simp only [Act.put,aT,aZ,aS]
      refine tk0 18 rfl (by kernel_rfl) (fun _ _ _ h => h) rfl hH ?_
      try simp only [Act.put,aT,aZ,aS]
      refine tk0 19 rfl (by kernel_rfl) (fun _ _ _ h => h) rfl hH ?_
      try simp only [Act.put,aT,aZ,aS]
      refine tk0 20 rfl (by kernel_rfl) (fun _ _ _ h => h) rfl hH ?_
      try simp only [Act.put,aT,aZ,aS]
      refine tk0 21 rfl (by kernel_rfl) (fun _ _ _ h => h) rfl hH ?_
      try simp only [Act.put,aT,aZ,aS]
      refine tk0 22 rfl (by kernel_rfl) (fun _ _ _ h => h) rfl hH ?_
      try simp only [Act.put,aT,aZ,aS]
      refine tk0 23 rfl (by kernel_rfl) (fun _ _ _ h => h) rfl hH ?_
      try simp only [Act.put,aT,aZ,aS]
      refine tk0 24 rfl (by kernel_rfl) (fun _ _ _ h => h) rfl hH ?_
      try simp only [Act.put,aT,aZ,aS]
      refine tk0 25 rfl (by kernel_rfl) (fun _ _ _ h => h) rfl hH ?_
      try simp only [Act.put,aT,aZ,aS]
      refine tk0 26 rfl (by kernel_rfl) (fun _ _ _ h => h) rfl hH ?_
      try simp only [Act.put,aT,aZ,aS]
      refine tk 27 rfl (by kernel_rfl) (fun _ _ _ h => h) rfl (fun w9 hS9 => by go_simp; (try rfl)) hH ?_
      try simp only [Act.put,aT,aZ,aS]
      refine tk 28 rfl (by kernel_rfl) (fun _ _ _ h => h) rfl (fun w9 hS9 => by go_simp; (try rfl)) hH ?_
      try simp only [Act.put,aT,aZ,aS]
      refine wpAnyH_done (by kernel_rfl) ?_ _
      go_wp2_with fail
      go_roundw
      case rel => exact ⟨0 + 1,rfl,hlt,hd2,xr.trans hH⟩
      case measure => simp only [intOf]; omega
    | succ j =>
      have hj : j < l.length := by omega
      have hj' : j < (l.map FamD.y).length := by simpa using hj
      have hpr : (((l.map FamD.y).take (j + 1)).getLast?.map FamY.nm) = some l[j].nm := by
       rw [List.take_add_one,List.getElem?_eq_getElem hj',Option.toList_some,List.getLast?_append]
       simp [FamD.y]
      rw [hpr,famsGo,hgk,Bool.true_and] at hd
      obtain ⟨q0,_,_,_,_⟩ := hL j hj
      rw [show l[j + 1].y.nm = l[j + 1].nm from rfl] at hd
      have hd3 : Hid (cmpS l[j].nm l[j + 1].nm < 0 → famsGo (((l.map FamD.y).take (j + 1 + 1)).getLast?.map FamY.nm) ((l.map FamD.y).drop (j + 1 + 1)) = G) := Lib.hid (fun h => by rw [htl,← hd,decide_eq_true h,Bool.true_and])
      have hd4 : Hid (¬ cmpS l[j].nm l[j + 1].nm < 0 → 19 = R) := Lib.hid (fun h => by
       have hGf : G = false := by rw [← hd,decide_eq_false h,Bool.false_and]
       rw [← hR.out,hGf,if_neg (by simp)])
      have i1 : IntKind.i64.wrap (j : Int) = (j : Int) := IntWalk.i64_in _ (by omega)
      have i2 : (j : Int) < (l.length : Int) := by omega
      have i3 : (0 : Int) < (j : Int) + 1 := by omega
      have i4 : (0 : Int) ≤ (j : Int) + 1 := by omega
      have i5 : (j : Int) + 1 < (l.length : Int) := by omega
      clear hd hg htl hpr hR PO
      generalize l[j + 1] = p at *
      generalize l[j].nm = q at *
      have nl := less_is q p.nm
      unfold FamD.v at RF
      clear hA hL ok1 sm1 hgk hs
      by_cases h0 : cmpS q p.nm < 0
      ·have hd5 := Lib.hid (hd3.out h0)
       rw [decide_eq_true h0] at nl
       clear hd3 hd4 h0
       go_wp2_with fail
       refine wp_region_held_drew (S := Ext wr) (by kernel_rfl) ((Ext.refl wr).drew) (fun hH => ?_)
       refine tk 0 rfl (by kernel_rfl) (fun _ _ _ h => h) rfl (fun w9 hS9 => by obtain ⟨c0,c1⟩ := (gr.ext hS9).cells; go_simp; (try rfl)) hH ?_
       try simp only [Act.put,aT,aZ,aS]
       refine tk 1 rfl (by kernel_rfl) (fun _ _ _ h => h) rfl (fun w9 hS9 => by obtain ⟨c0,c1⟩ := (gr.ext hS9).cells; go_simp; (try rfl)) hH ?_
       try simp only [Act.put,aT,aZ,aS]
       refine tk 2 rfl (by kernel_rfl) (fun _ _ _ h => h) rfl (fun w9 hS9 => by obtain ⟨c0,c1⟩ := (gr.ext hS9).cells; go_simp; (try rfl)) hH ?_
       try simp only [Act.put,aT,aZ,aS]
       refine tk 3 rfl (by kernel_rfl) (fun _ _ _ h => h) rfl (fun w9 hS9 => by obtain ⟨c0,c1⟩ := (gr.ext hS9).cells; go_simp; (try rfl)) hH ?_
       try simp only [Act.put,aT,aZ,aS]
       refine tk 4 rfl (by kernel_rfl) (fun _ _ _ h => h) rfl (fun w9 hS9 => by replace p0 := (Ext.cell hS9 hbr).trans p0; replace p1 := (Ext.cell hS9 hbr).trans p1; replace p2 := (Ext.cell hS9 hbr).trans p2; replace p3 := (Ext.cell hS9 hbr).trans p3; replace p4 := (Ext.cell hS9 hbr).trans p4; go_simp; (try rfl)) hH ?_
       try simp only [Act.put,aT,aZ,aS]
       refine wR (rs := [5]) (by kernel_rfl) (by simp) (aR rfl (fun K hK => ?_) aN)
       rw [if_pos (by rfl)]
       go_simp
       go_at_call 36
       (with_reducible refine (RF _ hH).mono ?_)
       rintro e wz ⟨rfl,xz⟩
       refine hK.out _ _ (hH.trans xz) (fun hH => ?_)
       clear hK K
       try simp only [aT,aZ,aS]
       refine tk 6 rfl (by kernel_rfl) (fun _ _ _ h => h) rfl (fun w9 hS9 => by go_simp; (try rfl)) hH ?_
       try simp only [Act.put,aT,aZ,aS]
       refine tk 7 rfl (by kernel_rfl) (fun _ _ _ h => h) rfl (fun w9 hS9 => by go_simp; (try rfl)) hH ?_
       try simp only [Act.put,aT,aZ,aS]
       refine tk 8 rfl (by kernel_rfl) (fun _ _ _ h => h) rfl (fun w9 hS9 => by obtain ⟨c0,c1⟩ := (gr.ext hS9).cells; go_simp; (try rfl)) hH ?_
       try simp only [Act.put,aT,aZ,aS]
       refine tk 9 rfl (by kernel_rfl) (fun _ _ _ h => h) rfl (fun w9 hS9 => by obtain ⟨c0,c1⟩ := (gr.ext hS9).cells; go_simp; (try rfl)) hH ?_
       try simp only [Act.put,aT,aZ,aS]
       refine tk 10 rfl (by kernel_rfl) (fun _ _ _ h => h) rfl (fun w9 hS9 => by obtain ⟨c0,c1⟩ := (gr.ext hS9).cells; go_simp; (try rfl)) hH ?_
       try simp only [Act.put,aT,aZ,aS]
       refine tk 11 rfl (by kernel_rfl) (fun _ _ _ h => h) rfl (fun w9 hS9 => by obtain ⟨c0,c1⟩ := (gr.ext hS9).cells; go_simp; (try rfl)) hH ?_
       try simp only [Act.put,aT,aZ,aS]
       refine tk 12 rfl (by kernel_rfl) (fun _ _ _ h => h) rfl (fun w9 hS9 => by obtain ⟨c0,c1⟩ := (gr.ext hS9).cells; go_simp; (try rfl)) hH ?_
       try simp only [Act.put,aT,aZ,aS]
       refine tk 13 rfl (by kernel_rfl) (fun _ _ _ h => h) rfl (fun w9 hS9 => by obtain ⟨c0,c1⟩ := (gr.ext hS9).cells; go_simp; (try rfl)) hH ?_
       try simp only [Act.put,aT,aZ,aS]
       refine tk 14 rfl (by kernel_rfl) (fun _ _ _ h => h) rfl (fun w9 hS9 => by obtain ⟨c0,c1⟩ := (gr.ext hS9).cells; go_simp; (try rfl)) hH ?_
       try simp only [Act.put,aT,aZ,aS]
       refine tk 15 rfl (by kernel_rfl) (fun _ _ _ h => h) rfl (fun w9 hS9 => by obtain ⟨c0,c1⟩ := (gr.ext hS9).cells; go_simp; (try rfl)) hH ?_
       try simp only [Act.put,aT,aZ,aS]
       refine tk 16 rfl (by kernel_rfl) (fun _ _ _ h => h) rfl (fun w9 hS9 => by obtain ⟨c0,c1⟩ := (gr.ext hS9).cells; go_simp; (try rfl)) hH ?_
       try simp only [Act.put,aT,aZ,aS]
       refine tk 17 rfl (by kernel_rfl) (fun _ _ _ h => h) rfl (fun w9 hS9 => by obtain ⟨c0,c1⟩ := (gr.ext hS9).cells; go_simp; (try rfl)) hH ?_
       try simp only [Act.put,aT,aZ,aS]
       refine tk 18 rfl (by kernel_rfl) (fun _ _ _ h => h) rfl (fun w9 hS9 => by replace q0 := (Ext.cell hS9 hbr).trans q0; go_simp; (try rfl)) hH ?_
       try simp only [Act.put,aT,aZ,aS]
       refine tk 19 rfl (by kernel_rfl) (fun _ _ _ h => h) rfl (fun w9 hS9 => by obtain ⟨c0,c1⟩ := (gr.ext hS9).cells; go_simp; (try rfl)) hH ?_
       try simp only [Act.put,aT,aZ,aS]
       refine tk 20 rfl (by kernel_rfl) (fun _ _ _ h => h) rfl (fun w9 hS9 => by obtain ⟨c0,c1⟩ := (gr.ext hS9).cells; go_simp; (try rfl)) hH ?_
       try simp only [Act.put,aT,aZ,aS]
       refine tk 21 rfl (by kernel_rfl) (fun _ _ _ h => h) rfl (fun w9 hS9 => by obtain ⟨c0,c1⟩ := (gr.ext hS9).cells; go_simp; (try rfl)) hH ?_
       try simp only [Act.put,aT,aZ,aS]
       refine tk 22 rfl (by kernel_rfl) (fun _ _ _ h => h) rfl (fun w9 hS9 => by obtain ⟨c0,c1⟩ := (gr.ext hS9).cells; go_simp; (try rfl)) hH ?_
       try simp only [Act.put,aT,aZ,aS]
       refine tk 23 rfl (by kernel_rfl) (fun _ _ _ h => h) rfl (fun w9 hS9 => by obtain ⟨c0,c1⟩ := (gr.ext hS9).cells; go_simp; (try rfl)) hH ?_
       try simp only [Act.put,aT,aZ,aS]
       refine tk 24 rfl (by kernel_rfl) (fun _ _ _ h => h) rfl (fun w9 hS9 => by obtain ⟨c0,c1⟩ := (gr.ext hS9).cells; go_simp; (try rfl)) hH ?_
       try simp only [Act.put,aT,aZ,aS]
       refine tk 25 rfl (by kernel_rfl) (fun _ _ _ h => h) rfl (fun w9 hS9 => by replace p0 := (Ext.cell hS9 hbr).trans p0; go_simp; (try rfl)) hH ?_
       try simp only [Act.put,aT,aZ,aS]
       refine tk 26 rfl (by kernel_rfl) (fun _ _ _ h => h) rfl (fun w9 hS9 => by go_simp; (try rfl)) hH ?_
       try simp only [Act.put,aT,aZ,aS]
       refine tk 27 rfl (by kernel_rfl) (fun _ _ _ h => h) rfl (fun w9 hS9 => by go_simp; (try rfl)) hH ?_
       try simp only [Act.put,aT,aZ,aS]
       refine tk 28 rfl (by kernel_rfl) (fun _ _ _ h => h) rfl (fun w9 hS9 => by go_simp; (try rfl)) hH ?_
       try simp only [Act.put,aT,aZ,aS]
       refine wpAnyH_done (by kernel_rfl) ?_ _
       go_wp2_with fail
       go_roundw
       case rel => exact ⟨j + 1 + 1,rfl,hlt,hd5,xr.trans hH⟩
       case measure => simp only [intOf]; omega
      ·have hd5 := Lib.hid (hd4.out h0)
       rw [decide_eq_false h0] at nl
       clear hd3 hd4 h0
       go_wp2_with fail
       refine wp_region_held_drew (S := Ext wr) (by kernel_rfl) ((Ext.refl wr).drew) (fun hH => ?_)
       refine tk 0 rfl (by kernel_rfl) (fun _ _ _ h => h) rfl (fun w9 hS9 => by obtain ⟨c0,c1⟩ := (gr.ext hS9).cells; go_simp; (try rfl)) hH ?_
       try simp only [Act.put,aT,aZ,aS]
       refine tk 1 rfl (by kernel_rfl) (fun _ _ _ h => h) rfl (fun w9 hS9 => by obtain ⟨c0,c1⟩ := (gr.ext hS9).cells; go_simp; (try rfl)) hH ?_
       try simp only [Act.put,aT,aZ,aS]
       refine tk 2 rfl (by kernel_rfl) (fun _ _ _ h => h) rfl (fun w9 hS9 => by obtain ⟨c0,c1⟩ := (gr.ext hS9).cells; go_simp; (try rfl)) hH ?_
       try simp only [Act.put,aT,aZ,aS]
       refine tk 3 rfl (by kernel_rfl) (fun _ _ _ h => h) rfl (fun w9 hS9 => by obtain ⟨c0,c1⟩ := (gr.ext hS9).cells; go_simp; (try rfl)) hH ?_
       try simp only [Act.put,aT,aZ,aS]
       refine tk 4 rfl (by kernel_rfl) (fun _ _ _ h => h) rfl (fun w9 hS9 => by replace p0 := (Ext.cell hS9 hbr).trans p0; replace p1 := (Ext.cell hS9 hbr).trans p1; replace p2 := (Ext.cell hS9 hbr).trans p2; replace p3 := (Ext.cell hS9 hbr).trans p3; replace p4 := (Ext.cell hS9 hbr).trans p4; go_simp; (try rfl)) hH ?_
       try simp only [Act.put,aT,aZ,aS]
       refine wR (rs := [5]) (by kernel_rfl) (by simp) (aR rfl (fun K hK => ?_) aN)
       rw [if_pos (by rfl)]
       go_simp
       go_at_call 36
       (with_reducible refine (RF _ hH).mono ?_)
       rintro e wz ⟨rfl,xz⟩
       refine hK.out _ _ (hH.trans xz) (fun hH => ?_)
       clear hK K
       try simp only [aT,aZ,aS]
       refine tk 6 rfl (by kernel_rfl) (fun _ _ _ h => h) rfl (fun w9 hS9 => by go_simp; (try rfl)) hH ?_
       try simp only [Act.put,aT,aZ,aS]
       refine tk 7 rfl (by kernel_rfl) (fun _ _ _ h => h) rfl (fun w9 hS9 => by go_simp; (try rfl)) hH ?_
       try simp only [Act.put,aT,aZ,aS]
       refine tk 8 rfl (by kernel_rfl) (fun _ _ _ h => h) rfl (fun w9 hS9 => by obtain ⟨c0,c1⟩ := (gr.ext hS9).cells; go_simp; (try rfl)) hH ?_
       try simp only [Act.put,aT,aZ,aS]
       refine tk 9 rfl (by kernel_rfl) (fun _ _ _ h => h) rfl (fun w9 hS9 => by obtain ⟨c0,c1⟩ := (gr.ext hS9).cells; go_simp; (try rfl)) hH ?_
       try simp only [Act.put,aT,aZ,aS]
       refine tk 10 rfl (by kernel_rfl) (fun _ _ _ h => h) rfl (fun w9 hS9 => by obtain ⟨c0,c1⟩ := (gr.ext hS9).cells; go_simp; (try rfl)) hH ?_
       try simp only [Act.put,aT,aZ,aS]
       refine tk 11 rfl (by kernel_rfl) (fun _ _ _ h => h) rfl (fun w9 hS9 => by obtain ⟨c0,c1⟩ := (gr.ext hS9).cells; go_simp; (try rfl)) hH ?_
       try simp only [Act.put,aT,aZ,aS]
       refine tk 12 rfl (by kernel_rfl) (fun _ _ _ h => h) rfl (fun w9 hS9 => by obtain ⟨c0,c1⟩ := (gr.ext hS9).cells; go_simp; (try rfl)) hH ?_
       try simp only [Act.put,aT,aZ,aS]
       refine tk 13 rfl (by kernel_rfl) (fun _ _ _ h => h) rfl (fun w9 hS9 => by obtain ⟨c0,c1⟩ := (gr.ext hS9).cells; go_simp; (try rfl)) hH ?_
       try simp only [Act.put,aT,aZ,aS]
       refine tk 14 rfl (by kernel_rfl) (fun _ _ _ h => h) rfl (fun w9 hS9 => by obtain ⟨c0,c1⟩ := (gr.ext hS9).cells; go_simp; (try rfl)) hH ?_
       try simp only [Act.put,aT,aZ,aS]
       refine tk 15 rfl (by kernel_rfl) (fun _ _ _ h => h) rfl (fun w9 hS9 => by obtain ⟨c0,c1⟩ := (gr.ext hS9).cells; go_simp; (try rfl)) hH ?_
       try simp only [Act.put,aT,aZ,aS]
       refine tk 16 rfl (by kernel_rfl) (fun _ _ _ h => h) rfl (fun w9 hS9 => by obtain ⟨c0,c1⟩ := (gr.ext hS9).cells; go_simp; (try rfl)) hH ?_
       try simp only [Act.put,aT,aZ,aS]
       refine tk 17 rfl (by kernel_rfl) (fun _ _ _ h => h) rfl (fun w9 hS9 => by obtain ⟨c0,c1⟩ := (gr.ext hS9).cells; go_simp; (try rfl)) hH ?_
       try simp only [Act.put,aT,aZ,aS]
       refine tk 18 rfl (by kernel_rfl) (fun _ _ _ h => h) rfl (fun w9 hS9 => by replace q0 := (Ext.cell hS9 hbr).trans q0; go_simp; (try rfl)) hH ?_
       try simp only [Act.put,aT,aZ,aS]
       refine tk 19 rfl (by kernel_rfl) (fun _ _ _ h => h) rfl (fun w9 hS9 => by obtain ⟨c0,c1⟩ := (gr.ext hS9).cells; go_simp; (try rfl)) hH ?_
       try simp only [Act.put,aT,aZ,aS]
       refine tk 20 rfl (by kernel_rfl) (fun _ _ _ h => h) rfl (fun w9 hS9 => by obtain ⟨c0,c1⟩ := (gr.ext hS9).cells; go_simp; (try rfl)) hH ?_
       try simp only [Act.put,aT,aZ,aS]
       refine tk 21 rfl (by kernel_rfl) (fun _ _ _ h => h) rfl (fun w9 hS9 => by obtain ⟨c0,c1⟩ := (gr.ext hS9).cells; go_simp; (try rfl)) hH ?_
       try simp only [Act.put,aT,aZ,aS]
       refine tk 22 rfl (by kernel_rfl) (fun _ _ _ h => h) rfl (fun w9 hS9 => by obtain ⟨c0,c1⟩ := (gr.ext hS9).cells; go_simp; (try rfl)) hH ?_
       try simp only [Act.put,aT,aZ,aS]
       refine tk 23 rfl (by kernel_rfl) (fun _ _ _ h => h) rfl (fun w9 hS9 => by obtain ⟨c0,c1⟩ := (gr.ext hS9).cells; go_simp; (try rfl)) hH ?_
       try simp only [Act.put,aT,aZ,aS]
       refine tk 24 rfl (by kernel_rfl) (fun _ _ _ h => h) rfl (fun w9 hS9 => by obtain ⟨c0,c1⟩ := (gr.ext hS9).cells; go_simp; (try rfl)) hH ?_
       try simp only [Act.put,aT,aZ,aS]
       refine tk 25 rfl (by kernel_rfl) (fun _ _ _ h => h) rfl (fun w9 hS9 => by replace p0 := (Ext.cell hS9 hbr).trans p0; go_simp; (try rfl)) hH ?_
       try simp only [Act.put,aT,aZ,aS]
       refine tk 26 rfl (by kernel_rfl) (fun _ _ _ h => h) rfl (fun w9 hS9 => by go_simp; (try rfl)) hH ?_
       try simp only [Act.put,aT,aZ,aS]
       refine tk 27 rfl (by kernel_rfl) (fun _ _ _ h => h) rfl (fun w9 hS9 => by go_simp; (try rfl)) hH ?_
       try simp only [Act.put,aT,aZ,aS]
       refine tk 28 rfl (by kernel_rfl) (fun _ _ _ h => h) rfl (fun w9 hS9 => by go_simp; (try rfl)) hH ?_
       try simp only [Act.put,aT,aZ,aS]
       refine wpAnyH_done (by kernel_rfl) ?_ _
       go_wp2_with fail
       go_ret
       exact ⟨retI hd5.out,(z1.trans xr).trans hH⟩
  ·have hd := hg.out
   rw [List.drop_eq_nil_of_le (by simp; omega)] at hd
   have hGt : G = true := by
    rw [← hd]
    cases ((l.map FamD.y).take k).getLast?.map FamY.nm <;> rfl
   have hR2 := hR.out
   rw [hGt,if_pos (by simp)] at hR2
   have i0 : ¬ (k : Int) < (l.length : Int) := by omega
   clear hd hg hA hs hR
   by_cases h30 : l.length ≤ 30
   ·have j1 : ¬ (l.length : Int) > 30 := by omega
    by_cases h120 : n ≤ 120
    ·have j2 : ¬ (n : Int) > 120 := by omega
     rw [if_pos ⟨h30,h120⟩] at hR2
     replace hR2 := Lib.hid hR2
     go_wp2_with fail
     (with_reducible refine (PO _ (z1.trans xr)).mono ?_)
     rintro e w5 ⟨rfl,x5⟩
     go_wp2_with fail
     go_ret
     exact ⟨retI hR2.out,(z1.trans xr).trans x5⟩
    ·have j2 : (n : Int) > 120 := by omega
     rw [if_neg (fun h => h120 h.2)] at hR2
     replace hR2 := Lib.hid hR2
     go_wp2_with fail
     (with_reducible refine (PO _ (z1.trans xr)).mono ?_)
     rintro e w5 ⟨rfl,x5⟩
     go_wp2_with fail
     go_ret
     exact ⟨retI hR2.out,(z1.trans xr).trans x5⟩
   ·have j1 : (l.length : Int) > 30 := by omega
    rw [if_neg (fun h => h30 h.1)] at hR2
    replace hR2 := Lib.hid hR2
    go_wp2_with fail
    go_ret
    exact ⟨retI hR2.out,z1.trans xr⟩
end Go.Proofs.YtjjnmefihdjglaaGreat
