import Derived.Test.YtjjnmefihdjglaaGreatRsG
import Derived.Test.YtjjnmefihdjglaaGreatMgS
import Derived.Test.YtjjnmefihdjglaaGreatRcB
set_option maxRecDepth 100000
set_option maxHeartbeats 64000000
set_option linter.all false
namespace Go.Proofs.YtjjnmefihdjglaaGreat
open Go.RowKit
theorem FamIn.all {b : Nat} {nm : ByteArray} {k : Int} {un he : ByteArray} {pv : Value} {w : World} (h : FamIn b nm k un he pv w) (q : FamD) :
  FamIn b q.nm q.k q.un q.he (.slice q.pa q.ps.length q.pc) (((((w.setCell ⟨b,0,none⟩ (.string q.nm)).setCell ⟨b,1,none⟩ (.int .i64 q.k)).setCell ⟨b,2,none⟩ (.string q.un)).setCell ⟨b,3,none⟩ (.string q.he)).setCell ⟨b,4,none⟩ (.slice q.pa q.ps.length q.pc)) := by
 have e := heap_setCells b [.string q.nm,.int .i64 q.k,.string q.un,.string q.he,.slice q.pa q.ps.length q.pc] 0 w _ _ _ h
 rw [show setL #[.string nm,.int .i64 k,.string un,.string he,pv] 0 [.string q.nm,.int .i64 q.k,.string q.un,.string q.he,.slice q.pa q.ps.length q.pc] = #[.string q.nm,.int .i64 q.k,.string q.un,.string q.he,.slice q.pa q.ps.length q.pc] from by simp [setL]] at e
 simp only [World.setCells] at e
 exact e
theorem MergeIs.fail {bs : List (ByteArray × List FamY)} {w' : World} {r : Int} (h : mergeY bs = (r,⟨#[]⟩,[])) : MergeIs bs (.returned (.tuple #[.agg #[.string ⟨#[]⟩,.slice none 0 0],.int .i64 r])) w' :=
 ⟨r,_,none,0,[],h,rfl,FamsA.nil _ _,by simp,by show (0 : Nat) ≤ 1000; decide,fun f hf => by cases hf⟩
theorem rMerge_any (a : Option Addr) (c : Nat) (l : List BatD) (w : World) (hA : BatsA a l w) (hl : l.length ≤ 8) (low : ∀ x ∈ l,Low x.tn x.fs) :
  Calls Tryz.prog 25 #[.slice a l.length c] w fun e w' => MergeIs (l.map BatD.y) e w' ∧ Ext w w' := by
 obtain ⟨W,hW⟩ : ∃ W,w.alloc (.cells #[.string ⟨#[]⟩,.slice none 0 0] 27) = W := ⟨_,rfl⟩
 have xw : Ext w W := by rw [← hW]; exact (Ext.refl w).alloc _
 have gR : BatIn w.heap.size ⟨#[]⟩ (.slice none 0 0) W := by rw [← hW]; exact heap_last _ _
 replace hW := Lib.hid hW
 obtain ⟨B,hB⟩ : ∃ B,w.heap.size = B := ⟨_,rfl⟩
 rw [hB] at gR
 have hwB : w.heap.size ≤ B := by omega
 by_cases h0 : l.length = 0
 ·obtain rfl : l = [] := List.length_eq_zero_iff.1 h0
  go_enter Tryz.func25,Tryz.ntmps25
  obtain ⟨e0,e1⟩ := gR.cells
  have fr := fun o => gR.free o
  go_wp2_with fail
  try rw [hB]
  try rw [hW.out]
  try go_wp2_with fail
  refine bodyPost_ret (v := .tuple #[.agg #[.string ⟨#[]⟩,.slice none 0 0],.int .i64 0]) ?_ rfl ⟨MergeIs.fail rfl,by first | exact xw | exact (xw.setC B 0 _ hwB).setC B 1 _ hwB⟩
  simp [results,Tryz.results25,go_sem,e0,e1]
 have h0b : ((l.length : Int) == 0) = false := by rw [beq_eq_false_iff_ne]; omega
 have hlp : 0 < l.length := by omega
 obtain ⟨b,o,rfl,hbb,hAt⟩ := hA.1 hlp
 go_enter Tryz.func25,Tryz.ntmps25
 go_wp2_with fail
 try rw [hB]
 try rw [hW.out]
 clear hW hB h0b
 go_loopw [4] (fun i wr => ∃ k : Nat,i = .int .i64 k ∧ k ≤ l.length ∧ Hid (∀ j (h : j < l.length),j < k → checkB l[j].tn (l[j].fs.map FamD.y) = 0) ∧ Ext W wr) (fun i _ => l.length - (intOf i).toNat)
 case atStart => exact ⟨0,rfl,Nat.zero_le _,Lib.hid (fun _ _ h => absurd h (Nat.not_lt_zero _)),Ext.refl _⟩
 case round =>
  obtain ⟨k,rfl,hk,hQ,xr⟩ := hrel
  replace gR := gR.ext xr
  have xw0 := xw.trans xr
  by_cases hlt : k < l.length
  ·obtain ⟨p0,p1⟩ := hAt k hlt
   have okF := (hA.2 _ (List.getElem_mem hlt)).ext xw0
   have lw := low _ (List.getElem_mem hlt)
   have hmem : l[k].y ∈ l.map BatD.y := List.mem_map_of_mem (List.getElem_mem hlt)
   obtain ⟨p,hp⟩ : ∃ p,l[k] = p := ⟨_,rfl⟩
   rw [hp] at p0 p1 okF lw hmem
   replace p0 := (Ext.cell xw0 hbb).trans p0
   replace p1 := (Ext.cell xw0 hbb).trans p1
   have i0 : (k : Int) < (l.length : Int) := by omega
   have CK := rCheck_any p.tn p.fa p.fc p.fs wr lw.big.1 lw.big.2.1 okF lw.2.2
   obtain ⟨r,hr⟩ : ∃ r,checkB p.tn (p.fs.map FamD.y) = r := ⟨_,rfl⟩
   rw [hr] at CK
   by_cases hr0 : r = 0
   ·subst hr0
    have hQ2 : Hid (∀ j (h : j < l.length),j < k + 1 → checkB l[j].tn (l[j].fs.map FamD.y) = 0) := Lib.hid (fun j h hj => by
     by_cases e : j = k
     ·subst e; rw [hp]; exact hr
     ·exact hQ.out j h (by omega))
    clear hQ hr hp okF lw hmem
    go_wp2_with fail
    (with_reducible refine CK.mono ?_)
    rintro e w1 ⟨rfl,y1⟩
    go_wp2_with fail
    go_roundw
    case rel => exact ⟨k + 1,rfl,hlt,hQ2,xr.trans y1⟩
    case measure => simp only [intOf]; omega
   ·have hrb : (r != 0) = true := by simpa using hr0
    have hM := Lib.hid (mergeY_19 hmem (by rw [← hr] at hr0; exact hr0))
    clear hQ hp okF lw hmem hr
    go_wp2_with fail
    (with_reducible refine CK.mono ?_)
    rintro e w1 ⟨rfl,y1⟩
    have yy := xw0.trans y1
    obtain ⟨e0,e1⟩ := (gR.ext y1).cells
    have fr := fun o => (gR.ext y1).free o
    go_wp2_with fail
    refine bodyPost_ret (v := .tuple #[.agg #[.string ⟨#[]⟩,.slice none 0 0],.int .i64 19]) ?_ rfl ⟨MergeIs.fail hM.out,(yy.setC B 0 _ hwB).setC B 1 _ hwB⟩
    simp [results,Tryz.results25,go_sem,e0,e1]
  ·obtain rfl : k = l.length := by omega
   have hck : Hid (∀ x ∈ l,checkB x.tn (x.fs.map FamD.y) = 0) := Lib.hid (fun x hx => by
    obtain ⟨j,hj,e⟩ := List.getElem_of_mem hx
    have := hQ.out j hj hj
    rw [e] at this; exact this)
   obtain ⟨t00,_⟩ := hAt 0 hlp
   rw [Nat.zero_mul,Nat.add_zero] at t00
   obtain ⟨T0,hT0⟩ : ∃ T0,l[0].tn = T0 := ⟨_,rfl⟩
   rw [hT0] at t00
   replace t00 := (Ext.cell xw0 hbb).trans t00
   have i9 : ¬ (l.length : Int) < (l.length : Int) := by omega
   have hl0 : (0 : Int) < (l.length : Int) := by omega
   have xa := (Ext.refl wr).alloc (.cells #[.string T0,.slice none 0 0] 27)
   have gX : BatIn wr.heap.size T0 (.slice none 0 0) (wr.alloc (.cells #[.string T0,.slice none 0 0] 27)) := heap_last _ _
   have hBX : B < wr.heap.size := gR.lt
   clear hQ hk hlt xr xw
   go_wp2_with fail
   replace gR := gR.ext xa
   have xw := xw0.trans xa
   obtain ⟨w3,hw3⟩ : ∃ x,wr.alloc (.cells #[.string T0,.slice none 0 0] 27) = x := ⟨_,rfl⟩
   rw [hw3] at gR gX xw ⊢
   obtain ⟨X,hX⟩ : ∃ x,wr.heap.size = x := ⟨_,rfl⟩
   rw [hX] at gX hBX ⊢
   have hXw : w.heap.size ≤ X := by omega
   clear hw3 hX xa xw0 t00
   obtain ⟨N,hNN⟩ : ∃ N,X + 1 = N := ⟨_,rfl⟩
   have hXN : X < N := by omega
   have hN3 : N ≤ w3.heap.size := by have := gX.lt; omega
   clear hNN
   go_loopw [6] (fun i wr2 => ∃ k : Nat,i = .int .i64 k ∧ k ≤ l.length ∧ Hid (∀ j (h : j < l.length),j < k → l[j].tn = T0) ∧ Ext w3 wr2) (fun i _ => l.length - (intOf i).toNat)
   case atStart => exact ⟨0,rfl,Nat.zero_le _,Lib.hid (fun _ _ h => absurd h (Nat.not_lt_zero _)),Ext.refl _⟩
   case round =>
    rename World => wq
    obtain ⟨k,rfl,hk,hQ,xr⟩ := hrel
    replace gR := gR.ext xr
    replace gX := gX.ext xr
    replace xw := xw.trans xr
    have hNq := Nat.le_trans hN3 xr.size
    by_cases hlt : k < l.length
    ·obtain ⟨p0,p1⟩ := hAt k hlt
     have hmem : l[k].y ∈ l.map BatD.y := List.mem_map_of_mem (List.getElem_mem hlt)
     obtain ⟨p,hp⟩ : ∃ p,l[k] = p := ⟨_,rfl⟩
     rw [hp] at p0 p1 hmem
     replace p0 := (Ext.cell xw hbb).trans p0
     have hbq : b < wq.heap.size := Nat.lt_of_lt_of_le hbb xw.size
     have i0 : (k : Int) < (l.length : Int) := by omega
     have en := eq_is p.tn T0
     by_cases hnt : p.tn = T0
     ·rw [decide_eq_true hnt] at en
      have hQ2 : Hid (∀ j (h : j < l.length),j < k + 1 → l[j].tn = T0) := Lib.hid (fun j h hj => by
       by_cases e : j = k
       ·subst e; rw [hp]; exact hnt
       ·exact hQ.out j h (by omega))
      replace hnt := Lib.hid hnt
      clear hQ hp hmem p1
      go_wp2_with fail
      refine wp_region_held_drew (S := Ext wq) (by kernel_rfl) ((Ext.refl wq).drew) (fun hH => ?_)
      refine tk 0 rfl (by kernel_rfl) (fun _ _ _ h => h) rfl (fun w9 hS9 => by go_simp; (try rfl)) hH ?_
      try simp only [Act.put,aT,aZ,aS]
      refine tk 1 rfl (by kernel_rfl) (fun _ _ _ h => h) rfl (fun w9 hS9 => by go_simp; (try rfl)) hH ?_
      try simp only [Act.put,aT,aZ,aS]
      refine tk 2 rfl (by kernel_rfl) (fun _ _ _ h => h) rfl (fun w9 hS9 => by go_simp; (try rfl)) hH ?_
      try simp only [Act.put,aT,aZ,aS]
      refine tk 3 rfl (by kernel_rfl) (fun _ _ _ h => h) rfl (fun w9 hS9 => by go_simp; (try rfl)) hH ?_
      try simp only [Act.put,aT,aZ,aS]
      refine tk 4 rfl (by kernel_rfl) (fun _ _ _ h => h) rfl (fun w9 hS9 => by replace p0 := (Ext.cell hS9 hbq).trans p0; go_simp; (try rfl)) hH ?_
      try simp only [Act.put,aT,aZ,aS]
      refine tk 5 rfl (by kernel_rfl) (fun _ _ _ h => h) rfl (fun w9 hS9 => by obtain ⟨x0,x1⟩ := (gX.ext hS9).cells; go_simp; (try rfl)) hH ?_
      try simp only [Act.put,aT,aZ,aS]
      refine tk 6 rfl (by kernel_rfl) (fun _ _ _ h => h) rfl (fun w9 hS9 => by obtain ⟨x0,x1⟩ := (gX.ext hS9).cells; go_simp; (try rfl)) hH ?_
      try simp only [Act.put,aT,aZ,aS]
      refine tk 7 rfl (by kernel_rfl) (fun _ _ _ h => h) rfl (fun w9 hS9 => by go_simp; (try rfl)) hH ?_
      try simp only [Act.put,aT,aZ,aS]
      refine wpAnyH_done (by kernel_rfl) ?_ _
      go_wp2_with fail
      go_roundw
      case rel => exact ⟨k + 1,rfl,hlt,hQ2,xr.trans hH⟩
      case measure => simp only [intOf]; omega
     ·rw [decide_eq_false hnt] at en
      have hM : Hid (mergeY (l.map BatD.y) = (18,⟨#[]⟩,[])) := Lib.hid (by
       have hl2 : l = l[0] :: l.drop 1 := by
        have := List.drop_eq_getElem_cons hlp
        simpa using this
       rw [hl2,List.map_cons]
       have hc : ∀ x ∈ l[0].y :: (l.drop 1).map BatD.y,checkB x.1 x.2 = 0 := fun x hx => by
        rw [← List.map_cons,← hl2] at hx
        obtain ⟨z,hz,rfl⟩ := List.mem_map.1 hx
        exact hck.out z hz
       refine mergeY_18 hc (b := p.y) ?_ (by rw [show l[0].y.1 = l[0].tn from rfl,hT0]; exact hnt)
       rw [← List.map_cons,← hl2]
       exact hmem)
      clear hQ hp hmem hnt p1
      go_wp2_with fail
      refine wp_region_held_drew (S := Ext wq) (by kernel_rfl) ((Ext.refl wq).drew) (fun hH => ?_)
      refine tk 0 rfl (by kernel_rfl) (fun _ _ _ h => h) rfl (fun w9 hS9 => by go_simp; (try rfl)) hH ?_
      try simp only [Act.put,aT,aZ,aS]
      refine tk 1 rfl (by kernel_rfl) (fun _ _ _ h => h) rfl (fun w9 hS9 => by go_simp; (try rfl)) hH ?_
      try simp only [Act.put,aT,aZ,aS]
      refine tk 2 rfl (by kernel_rfl) (fun _ _ _ h => h) rfl (fun w9 hS9 => by go_simp; (try rfl)) hH ?_
      try simp only [Act.put,aT,aZ,aS]
      refine tk 3 rfl (by kernel_rfl) (fun _ _ _ h => h) rfl (fun w9 hS9 => by go_simp; (try rfl)) hH ?_
      try simp only [Act.put,aT,aZ,aS]
      refine tk 4 rfl (by kernel_rfl) (fun _ _ _ h => h) rfl (fun w9 hS9 => by replace p0 := (Ext.cell hS9 hbq).trans p0; go_simp; (try rfl)) hH ?_
      try simp only [Act.put,aT,aZ,aS]
      refine tk 5 rfl (by kernel_rfl) (fun _ _ _ h => h) rfl (fun w9 hS9 => by obtain ⟨x0,x1⟩ := (gX.ext hS9).cells; go_simp; (try rfl)) hH ?_
      try simp only [Act.put,aT,aZ,aS]
      refine tk 6 rfl (by kernel_rfl) (fun _ _ _ h => h) rfl (fun w9 hS9 => by obtain ⟨x0,x1⟩ := (gX.ext hS9).cells; go_simp; (try rfl)) hH ?_
      try simp only [Act.put,aT,aZ,aS]
      refine tk 7 rfl (by kernel_rfl) (fun _ _ _ h => h) rfl (fun w9 hS9 => by go_simp; (try rfl)) hH ?_
      try simp only [Act.put,aT,aZ,aS]
      refine wpAnyH_done (by kernel_rfl) ?_ _
      obtain ⟨e0,e1⟩ := gR.cells
      have fr := fun o => gR.free o
      have yy := xw.trans hH
      go_wp2_with fail
      refine bodyPost_ret (v := .tuple #[.agg #[.string ⟨#[]⟩,.slice none 0 0],.int .i64 18]) ?_ rfl ⟨MergeIs.fail hM.out,(yy.setC B 0 _ hwB).setC B 1 _ hwB⟩
      simp [results,Tryz.results25,go_sem,e0,e1]
    ·have hnm : Hid (∀ x ∈ l,x.tn = T0) := Lib.hid (fun x hx => by
      obtain ⟨j,hj,e⟩ := List.getElem_of_mem hx
      have := hQ.out j hj (by omega)
      rw [e] at this; exact this)
     have hgo : Hid (mergeY (l.map BatD.y) = mergeG T0 ((l.map BatD.y).flatMap (fun b => b.2))) := Lib.hid (by
      have hl2 : l = l[0] :: l.drop 1 := by
       have := List.drop_eq_getElem_cons hlp
       simpa using this
      have hc : ∀ x ∈ l[0].y :: (l.drop 1).map BatD.y,checkB x.1 x.2 = 0 := fun x hx => by
       rw [← List.map_cons,← hl2] at hx
       obtain ⟨z,hz,rfl⟩ := List.mem_map.1 hx
       exact hck.out z hz
      have hn : ∀ x ∈ l[0].y :: (l.drop 1).map BatD.y,x.1 = l[0].y.1 := fun x hx => by
       rw [← List.map_cons,← hl2] at hx
       obtain ⟨z,hz,rfl⟩ := List.mem_map.1 hx
       show z.tn = l[0].tn
       rw [hT0]; exact hnm.out z hz
      have := mergeY_go hc hn
      rw [← List.map_cons,← hl2,show l[0].y.1 = l[0].tn from rfl,hT0] at this
      exact this)
     have hall : Hid (∀ x ∈ l,GoodB x.tn (x.fs.map FamD.y)) := Lib.hid (fun x hx => GoodB.of (hck.out x hx))
     have hT0s : T0.size ≤ 1000000 := by rw [← hT0]; exact (low _ (List.getElem_mem hlp)).big.2.1
     have i9 : ¬ (k : Int) < (l.length : Int) := by omega
     clear hQ hnm hck hN3 xr hT0
     go_wp2_with fail
     clear hlt hk i9
     go_loopw [7,8] (fun v i wk => ∃ (k : Nat) (L : List FamD),i = .int .i64 k ∧ k ≤ l.length ∧ Hid (takesY [] (((l.take k).map BatD.y).flatMap (fun b => b.2)) = some (L.map FamD.y)) ∧ Fams N w v L wk ∧ BatIn X T0 (.slice none 0 0) wk ∧ BatIn B ⟨#[]⟩ (.slice none 0 0) wk ∧ Ext w wk ∧ N ≤ wk.heap.size) (fun _ i _ => l.length - (intOf i).toNat)
     case atStart => exact ⟨0,[],rfl,Nat.zero_le _,Lib.hid rfl,Fams.nil _ _ _,gX,gR,xw,hNq⟩
     case round =>
      clear gX gR xw hNq
      obtain ⟨k,L,rfl,hk,hQ,hO,gX,gR,xw,hNq⟩ := hrel
      by_cases hlt : k < l.length
      ·obtain ⟨p0,p1⟩ := hAt k hlt
       have hFA := hA.2 _ (List.getElem_mem hlt)
       have lw := low _ (List.getElem_mem hlt)
       have hft := flat_take hlt
       have hfs := flat_split hlt
       have hgp := hall.out _ (List.getElem_mem hlt)
       have hfb := flat_bounds (l.take k) (fun x hx => hall.out x (List.mem_of_mem_take hx))
       rw [List.length_take] at hfb
       have hpsm : ∀ f ∈ ((l.take k).map BatD.y).flatMap (fun b => b.2),f.Sm := fun f hf => by
        obtain ⟨y,hy,hfy⟩ := List.mem_flatMap.1 hf
        obtain ⟨x,hx,rfl⟩ := List.mem_map.1 hy
        obtain ⟨z,hz,rfl⟩ := List.mem_map.1 hfy
        exact (low x (List.mem_of_mem_take hx)).2.2 z hz
       obtain ⟨pre,hpre⟩ : ∃ pre,((l.take k).map BatD.y).flatMap (fun b => b.2) = pre := ⟨_,rfl⟩
       obtain ⟨p,hp⟩ : ∃ p,l[k] = p := ⟨_,rfl⟩
       rw [hp] at p0 p1 hFA lw hft hfs hgp
       rw [hpre] at hft hfs hfb hpsm hQ
       have i0 : (k : Int) < (l.length : Int) := by omega
       have gp1 := hgp.pts
       have gp2 := hgp.len
       rw [List.length_map] at gp2
       replace hft := Lib.hid hft
       replace hfs := Lib.hid hfs
       replace hpsm := Lib.hid hpsm
       obtain ⟨pn,pfa,pfc,pfs⟩ := p
       have b3 : ∀ f ∈ pfs,f.y.Sm := lw.2.2
       have bl : pfs.length ≤ 1000 := lw.1
       dsimp only at p0 p1 hFA gp1 gp2 hft hfs
       clear hp hpre hgp lw p0
       go_wp2_with fail
       go_loopw [7,9] (fun v i wm => ∃ (m : Nat) (L : List FamD),i = .int .i64 m ∧ m ≤ pfs.length ∧ Hid (takesY [] (pre ++ (pfs.map FamD.y).take m) = some (L.map FamD.y)) ∧ Fams N w v L wm ∧ BatIn X T0 (.slice none 0 0) wm ∧ BatIn B ⟨#[]⟩ (.slice none 0 0) wm ∧ Ext w wm ∧ N ≤ wm.heap.size) (fun _ i _ => pfs.length - (intOf i).toNat)
       case atStart => exact ⟨0,L,rfl,Nat.zero_le _,Lib.hid (by rw [List.take_zero,List.append_nil]; exact hQ.out),hO,gX,gR,xw,hNq⟩
       case round =>
        rename World => wm
        clear hO gX gR xw hNq hQ
        obtain ⟨m,L,rfl,hm,hQ,hO,gX,gR,xw,hNq⟩ := hrel
        have p1' := (Ext.cell xw hbb).trans p1
        obtain ⟨av,cv,hv,hFL⟩ := hO.fams xw
        subst hv
        by_cases hmt : m < pfs.length
        ·obtain ⟨fb,fo,efa,hfb2,hFt⟩ := hFA.1 (by omega)
         subst efa
         obtain ⟨q0,q1,q2,q3,q4⟩ := hFt m hmt
         have okP := hFA.2 _ (List.getElem_mem hmt)
         have sq := b3 _ (List.getElem_mem hmt)
         have htk : (pfs.map FamD.y).take (m + 1) = (pfs.map FamD.y).take m ++ [pfs[m].y] := by rw [List.take_add_one,List.getElem?_map,List.getElem?_eq_getElem hmt]; rfl
         have hdr : pfs.map FamD.y = (pfs.map FamD.y).take m ++ (pfs[m].y :: (pfs.map FamD.y).drop (m + 1)) := by
          have h1 : m < (pfs.map FamD.y).length := by simpa using hmt
          have h2 := List.take_append_drop m (pfs.map FamD.y)
          rw [List.drop_eq_getElem_cons h1,show (pfs.map FamD.y)[m] = pfs[m].y from by simp] at h2
          exact h2.symm
         have hbd := takesY_bounds _ [] _ hQ.out (by intro x hx; cases hx) (fun x hx => by
          rcases List.mem_append.1 hx with hx | hx
          ·exact hpsm.out x hx
          ·obtain ⟨z,hz,rfl⟩ := List.mem_map.1 (List.mem_of_mem_take hx)
           exact b3 z hz) (by
          have h1 := congrArg ptsN hdr
          rw [ptsN_append] at h1
          rw [ptsN_append]
          simp only [ptsN] at h1 ⊢
          omega)
         have hpd : ptsN ((pfs.map FamD.y).take m) + pfs[m].ps.length ≤ 120 := by
          have h1 := congrArg ptsN hdr
          rw [ptsN_append,ptsN,FamD.y_len] at h1
          omega
         obtain ⟨f,hf⟩ : ∃ f,pfs[m] = f := ⟨_,rfl⟩
         rw [hf] at q0 q1 q2 q3 q4 okP sq htk hdr hpd
         have hLl : L.length ≤ 900 := by
          have h1 := hbd.1
          rw [List.length_map,List.length_append,List.length_take,List.length_map] at h1
          simp only [List.length_nil] at h1
          omega
         have hsL : ∀ x ∈ L,x.y.Sm := fun x hx => hbd.2.2 x.y (List.mem_map_of_mem hx)
         have hszL : ∀ x ∈ L,x.ps.length + f.ps.length ≤ 1000 := fun x hx => by
          have h1 := ptsN_mem (List.mem_map_of_mem (f := FamD.y) hx)
          have h2 := hbd.2.1
          rw [FamD.y_len] at h1
          rw [ptsN_append] at h2
          simp only [ptsN] at h2
          omega
         have hdL : Hid (Dst (L.map FamD.y)) := Lib.hid (takesY_dst _ [] List.Pairwise.nil hQ.out)
         replace q0 := (Ext.cell xw hfb2).trans q0
         replace q1 := (Ext.cell xw hfb2).trans q1
         replace q2 := (Ext.cell xw hfb2).trans q2
         replace q3 := (Ext.cell xw hfb2).trans q3
         replace q4 := (Ext.cell xw hfb2).trans q4
         have i1 : (m : Int) < (pfs.length : Int) := by omega
         have hQt : Hid (∀ M,takeY (L.map FamD.y) f.y = some M → takesY [] (pre ++ (pfs.map FamD.y).take (m + 1)) = some M) := Lib.hid (fun M hM => by
          rw [htk,← List.append_assoc,takesY_append,hQ.out,Option.bind_some,takesY,hM]
          rfl)
         have hQn : Hid (takeY (L.map FamD.y) f.y = none → mergeY (l.map BatD.y) = (13,⟨#[]⟩,[])) := Lib.hid (fun hM => by
          rw [hgo.out]
          unfold mergeG
          have : takesY [] ((l.map BatD.y).flatMap (fun b => b.2)) = none := by
           rw [hfs.out,hdr,← List.append_assoc,List.append_assoc _ _ (List.flatMap _ _),takesY_append,hQ.out,Option.bind_some,List.cons_append,takesY,hM]
           rfl
          rw [this])
         have xf := (Ext.refl wm).alloc (.cells #[.string f.nm,.int .i64 f.k,.string f.un,.string f.he,.slice f.pa f.ps.length f.pc] 35)
         have gF : FamIn wm.heap.size f.nm f.k f.un f.he (.slice f.pa f.ps.length f.pc) (wm.alloc (.cells #[.string f.nm,.int .i64 f.k,.string f.un,.string f.he,.slice f.pa f.ps.length f.pc] 35)) := heap_last _ _
         clear hQ hf hbd hpd htk hdr hFt
         go_wp2_with fail
         clear q0 q1 q2 q3 q4 p1' i1
         replace hO := hO.ext xf
         replace hFL := hFL.ext xf
         replace gX := gX.ext xf
         replace gR := gR.ext xf
         replace xw := xw.trans xf
         replace hNq := Nat.le_trans hNq xf.size
         obtain ⟨wf,hwf⟩ : ∃ x,wm.alloc (.cells #[.string f.nm,.int .i64 f.k,.string f.un,.string f.he,.slice f.pa f.ps.length f.pc] 35) = x := ⟨_,rfl⟩
         rw [hwf] at hO hFL gX gR xw hNq gF ⊢
         obtain ⟨FB,hFB⟩ : ∃ x,wm.heap.size = x := ⟨_,rfl⟩
         rw [hFB] at gF ⊢
         clear hwf xf
         replace hFB := Lib.hid hFB
         obtain ⟨hFw⟩ : Nonempty (wf.heap.size ≤ wf.heap.size) := ⟨Nat.le_refl _⟩
         go_loopw [11,12] (fun z i wn => ∃ (n : Nat) (t : Int),i = .int .i64 n ∧ n ≤ L.length ∧ z = .int .i64 t ∧ Hid ((t = -1 ∧ ∀ j (h : j < L.length),j < n → L[j].nm ≠ f.nm) ∨ ∃ j,∃ h : j < L.length,t = j ∧ L[j].nm = f.nm) ∧ Ext wf wn) (fun _ i _ => L.length - (intOf i).toNat)
         case atStart => exact ⟨0,-1,rfl,Nat.zero_le _,rfl,Lib.hid (.inl ⟨rfl,fun j _ h => absurd h (Nat.not_lt_zero _)⟩),Ext.refl _⟩
         case round =>
          rename World => wn
          obtain ⟨n,t,rfl,hn,rfl,hat,xn⟩ := hrel
          replace hO := hO.ext xn
          replace hFL := hFL.ext xn
          replace gX := gX.ext xn
          replace gR := gR.ext xn
          replace gF := gF.ext xn
          replace xw := xw.trans xn
          have hNn := Nat.le_trans hNq xn.size
          by_cases hnt : n < L.length
          ·obtain ⟨gn,go,eav,hgn,hLT⟩ := hFL.1 (by omega)
           subst eav
           obtain ⟨q0,_,_,_,_⟩ := hLT n hnt
           have hlq : Hid (∀ h : n < L.length,L[n]'h = L[n]'hnt) := Lib.hid (fun _ => rfl)
           obtain ⟨q,hq⟩ : ∃ q,L[n]'hnt = q := ⟨_,rfl⟩
           rw [hq] at q0 hlq
           have n1 : (n : Int) < (L.length : Int) := by omega
           obtain ⟨bz,en⟩ : ∃ bz,(q.nm.toList == f.nm.toList) = bz := ⟨_,rfl⟩
           have hbz : Hid (bz = decide (q.nm = f.nm)) := Lib.hid (by rw [← en]; exact eq_is _ _)
           clear hLT hq
           go_wp2_with fail
           refine wp_region_held_drew (S := Ext wn) (by kernel_rfl) ((Ext.refl wn).drew) (fun hH => ?_)
           refine tk 0 rfl (by kernel_rfl) (fun _ _ _ h => h) rfl (fun w9 hS9 => by go_simp; (try rfl)) hH ?_
           try simp only [Act.put,aT,aZ,aS]
           refine tk 1 rfl (by kernel_rfl) (fun _ _ _ h => h) rfl (fun w9 hS9 => by go_simp; (try rfl)) hH ?_
           try simp only [Act.put,aT,aZ,aS]
           refine tk 2 rfl (by kernel_rfl) (fun _ _ _ h => h) rfl (fun w9 hS9 => by go_simp; (try rfl)) hH ?_
           try simp only [Act.put,aT,aZ,aS]
           refine tk 3 rfl (by kernel_rfl) (fun _ _ _ h => h) rfl (fun w9 hS9 => by go_simp; (try rfl)) hH ?_
           try simp only [Act.put,aT,aZ,aS]
           refine tk 4 rfl (by kernel_rfl) (fun _ _ _ h => h) rfl (fun w9 hS9 => by go_simp; (try rfl)) hH ?_
           try simp only [Act.put,aT,aZ,aS]
           refine tk 5 rfl (by kernel_rfl) (fun _ _ _ h => h) rfl (fun w9 hS9 => by replace q0 := (Ext.cell hS9 hgn).trans q0; go_simp; (try rfl)) hH ?_
           try simp only [Act.put,aT,aZ,aS]
           refine tk 6 rfl (by kernel_rfl) (fun _ _ _ h => h) rfl (fun w9 hS9 => by obtain ⟨s0,s1,s2,s3,s4⟩ := (gF.ext hS9).cells; go_simp; (try rfl)) hH ?_
           try simp only [Act.put,aT,aZ,aS]
           refine tk 7 rfl (by kernel_rfl) (fun _ _ _ h => h) rfl (fun w9 hS9 => by obtain ⟨s0,s1,s2,s3,s4⟩ := (gF.ext hS9).cells; go_simp; (try rfl)) hH ?_
           try simp only [Act.put,aT,aZ,aS]
           refine tk 8 rfl (by kernel_rfl) (fun _ _ _ h => h) rfl (fun w9 hS9 => by obtain ⟨s0,s1,s2,s3,s4⟩ := (gF.ext hS9).cells; go_simp; (try rfl)) hH ?_
           try simp only [Act.put,aT,aZ,aS]
           refine tk 9 rfl (by kernel_rfl) (fun _ _ _ h => h) rfl (fun w9 hS9 => by go_simp; (try rfl)) hH ?_
           try simp only [Act.put,aT,aZ,aS]
           refine wpAnyH_done (by kernel_rfl) ?_ _
           cases bz
           ·have hat2 : Hid ((t = -1 ∧ ∀ j (h : j < L.length),j < n + 1 → L[j].nm ≠ f.nm) ∨ ∃ j,∃ h : j < L.length,t = j ∧ L[j].nm = f.nm) := Lib.hid (by
             rcases hat.out with ⟨h1,h2⟩ | h
             ·refine .inl ⟨h1,fun j hj hjn => ?_⟩
              by_cases e : j = n
              ·subst e
               rw [hlq.out hj]
               exact of_decide_eq_false hbz.out.symm
              ·exact h2 j hj (by omega)
             ·exact .inr h)
            clear hat hbz hlq
            go_wp2_with fail
            go_roundw
            case rel => exact ⟨n + 1,t,rfl,hnt,rfl,hat2,xn.trans hH⟩
            case measure => simp only [intOf]; omega
           ·have hat2 : Hid (((n : Int) = -1 ∧ ∀ j (h : j < L.length),j < n + 1 → L[j].nm ≠ f.nm) ∨ ∃ j,∃ h : j < L.length,(n : Int) = j ∧ L[j].nm = f.nm) := Lib.hid (.inr ⟨n,hnt,rfl,by rw [hlq.out hnt]; exact of_decide_eq_true hbz.out.symm⟩)
            clear hat hbz hlq
            go_wp2_with fail
            go_roundw
            case rel => exact ⟨n + 1,n,rfl,hnt,rfl,hat2,xn.trans hH⟩
            case measure => simp only [intOf]; omega
          ·have n1 : ¬ (n : Int) < (L.length : Int) := by omega
           rcases hat.out with ⟨ht,hno⟩ | ⟨j,hj,ht,hjn⟩
           ·subst ht
            have hQ2 := Lib.hid (hQt.out _ (takeY_no (fun x hx => by
             obtain ⟨y,hy,rfl⟩ := List.mem_map.1 hx
             obtain ⟨i,hi,rfl⟩ := List.getElem_of_mem hy
             exact hno i hi (by omega))))
            rw [show L.map FamD.y ++ [f.y] = (L ++ [f]).map FamD.y from by rw [List.map_append]; rfl] at hQ2
            obtain ⟨s0,s1,s2,s3,s4⟩ := gF.cells
            have xa := (Ext.refl wn).alloc (.cells #[.string f.nm,.int .i64 f.k,.string f.un,.string f.he,.slice f.pa f.ps.length f.pc] 35)
            have hcell : FamIn wn.heap.size f.nm f.k f.un f.he (.slice f.pa f.ps.length f.pc) (wn.alloc (.cells #[.string f.nm,.int .i64 f.k,.string f.un,.string f.he,.slice f.pa f.ps.length f.pc] 35)) := heap_last _ _
            obtain ⟨wz,hwz⟩ : ∃ x,wn.alloc (.cells #[.string f.nm,.int .i64 f.k,.string f.un,.string f.he,.slice f.pa f.ps.length f.pc] 35) = x := ⟨_,rfl⟩
            rw [hwz] at xa hcell
            have rs := FamsA.oneF hcell ((okP.ext xw).ext xa)
            have hc := one_srcF rs
            have hO3 := hO.ext xa
            have hlt3 : ∀ g,(Value.slice av L.length cv).ownBlock = some g → N ≤ g := fun g hg => (hO.row.lt g hg).1
            have hfp : FamP (Value.slice av L.length cv).ownBlock f wz := FamP.of okP (xw.trans xa) (fun g hg => by have := hlt3 g hg; omega)
            have xc := xw.trans xa
            have hNc := Nat.le_trans hNn xa.size
            replace gX := gX.ext xa
            replace gR := gR.ext xa
            replace hwz := Lib.hid hwz
            clear hat hno hO hcell rs hFL hsL hszL hdL hQt hQn
            go_wp2_with (at_builtin; (try rw [hwz.out]); refine wpList_append_structs wz rfl _ _ rfl tyFam (fun _ => rfl) famC_one (by decide) N _ L.length (fun i => L[i]?.getD FamD.zero) rfl hO3.row ?c2 ⟨wn.heap.size,0,none⟩ 1 1 (fun _ => f) rfl hc ?c3 ?c4 (.inr (by decide)) ?_)
            case c3 => omega
            case c4 => omega
            intro v' w4 h1 h2 h3
            have hO4 := hO3.push hfp okP.2 h1 h2 h3
            have x8 : Ext w w4 := grown_ext' xc h2 (Nat.le_refl _) (fun g hg => by have := hlt3 g hg; omega)
            have hN4 : N ≤ w4.heap.size := by have := h2.size; omega
            replace gX := gX.grown h2 (fun g hg => by have := hlt3 g hg; omega)
            replace gR := gR.grown h2 (fun g hg => by have := hlt3 g hg; omega)
            clear h1 h2 h3 hO3 hfp hlt3 hc s0 s1 s2 s3 s4
            obtain ⟨a5,c5,hv5⟩ := hO4.row.form
            subst hv5
            obtain ⟨L2,hL2⟩ : ∃ L2,L ++ [f] = L2 := ⟨_,rfl⟩
            rw [hL2] at hQ2 hO4 ⊢
            clear hL2
            go_wp2_with fail
            go_roundw
            case rel => exact ⟨m + 1,L2,rfl,hmt,hQ2,hO4,gX,gR,x8,hN4⟩
            case measure => simp only [intOf]; omega
           ·subst ht
            obtain ⟨g,cap,hv,hgN,hrow⟩ := hO.row.row (by omega)
            injection hv with e1 e2 e3
            subst e1 e3
            obtain ⟨b',o',e,hgn,hLT⟩ := hFL.1 (by omega)
            injection e with e
            injection e with e1 e2
            subst e1 e2
            obtain ⟨q0,q1,q2,q3,q4⟩ := hLT j hj
            have hmq := List.getElem_mem hj
            have hjy : Hid (∃ h : j < (L.map FamD.y).length,(L.map FamD.y)[j] = L[j].y) := Lib.hid ⟨by simpa using hj,by simp⟩
            have okQ := hO.ptsA xw _ hmq
            have okQ2 := hO.ok _ hmq
            have smQ := hsL _ hmq
            have szQ := hszL _ hmq
            obtain ⟨qo,hqo⟩ : ∃ q,L[j] = q := ⟨_,rfl⟩
            rw [hqo] at q0 q1 q2 q3 q4 okQ okQ2 smQ szQ hjy hjn
            rw [Nat.zero_add] at q0 q1 q2 q3 q4
            have CP := fun W (x : Ext wn W) => rPut_any qo f W (okQ.ext x) ((okP.ext xw).ext x) smQ sq szQ
            have j0 : ¬ (j : Int) < 0 := by omega
            have j1 : (j : Int) < (L.length : Int) := by omega
            replace hjn := Lib.hid hjn
            clear hat hFL hsL hszL hLT hmq hqo
            go_upto_region 30 with fail
            go_cut [13,14] (fun s13 s14 wx => ∃ (nb : Nat) (q2 : FamD) (ok2 : Bool),s13 = .pointer (some ⟨nb,0,none⟩) ∧ s14 = .bool ok2 ∧ FamIn nb q2.nm q2.k q2.un q2.he (.slice q2.pa q2.ps.length q2.pc) wx ∧ FamP (some g) q2 wx ∧ (∀ p ∈ q2.ps,p ∈ qo.ps ++ f.ps) ∧ Hid ((ok2 = true → putY qo.y f.y = some q2.y) ∧ (ok2 = false → putY qo.y f.y = none)) ∧ Ext wn wx)
            case first =>
             refine wp_region_held_drew (S := Ext wn) (by kernel_rfl) ((Ext.refl wn).drew) (fun hH => ?_)
             refine tk 0 rfl (by kernel_rfl) (fun _ _ _ h => h) rfl (fun w9 hS9 => by go_simp; (try rfl)) hH ?_
             try simp only [Act.put,aT,aZ,aS]
             refine tk 1 rfl (by kernel_rfl) (fun _ _ _ h => h) rfl (fun w9 hS9 => by go_simp; (try rfl)) hH ?_
             try simp only [Act.put,aT,aZ,aS]
             refine tk 2 rfl (by kernel_rfl) (fun _ _ _ h => h) rfl (fun w9 hS9 => by go_simp; (try rfl)) hH ?_
             try simp only [Act.put,aT,aZ,aS]
             refine tk 3 rfl (by kernel_rfl) (fun _ _ _ h => h) rfl (fun w9 hS9 => by replace q0 := (Ext.cell hS9 hgn).trans q0; replace q1 := (Ext.cell hS9 hgn).trans q1; replace q2 := (Ext.cell hS9 hgn).trans q2; replace q3 := (Ext.cell hS9 hgn).trans q3; replace q4 := (Ext.cell hS9 hgn).trans q4; go_simp; (try rfl)) hH ?_
             try simp only [Act.put,aT,aZ,aS]
             refine tk 4 rfl (by kernel_rfl) (fun _ _ _ h => h) rfl (fun w9 hS9 => by obtain ⟨s0,s1,s2,s3,s4⟩ := (gF.ext hS9).cells; go_simp; (try rfl)) hH ?_
             try simp only [Act.put,aT,aZ,aS]
             obtain ⟨w0,hw0⟩ : ∃ x,wn.drew = x := ⟨_,rfl⟩
             rw [hw0] at hH ⊢
             clear hw0
             refine wR (rs := [5,9]) (by kernel_rfl) (by simp) (aR rfl (fun K hK => ?km4018x5) (aR rfl (fun K hK => ?km4018x9) aN))
             case km4018x5 =>
              rw [if_pos (by rfl)]
              go_simp
              go_at_call 30
              (with_reducible refine (CP _ hH).mono ?_)
              rintro e wC ⟨⟨q2,ok2,rfl,hRq,hMq,k1,k2⟩,xc⟩
              have k3 := Lib.hid (And.intro k1 (fun h => (k2 h).1))
              clear k1 k2
              have hRq2 := hRq.famP (g := g) (Nat.lt_of_lt_of_le hgn hH.size)
              clear hRq
              refine hK.out _ _ (hH.trans xc) (fun hH => ?_)
              clear hK K
              try simp only [aT,aZ,aS]
              refine tk 6 rfl (by kernel_rfl) (fun _ _ _ h => h) rfl (fun w9 hS9 => by go_simp; (try rfl)) hH ?_
              try simp only [Act.put,aT,aZ,aS]
              refine tk 7 rfl (by kernel_rfl) (fun _ _ _ h => h) rfl (fun w9 hS9 => by go_simp; (try rfl)) hH ?_
              try simp only [Act.put,aT,aZ,aS]
              refine tk 8 rfl (by kernel_rfl) (fun _ _ _ h => h) rfl (fun w9 hS9 => by go_simp; (try rfl)) hH ?_
              try simp only [Act.put,aT,aZ,aS]
              refine wR (rs := [9]) (by kernel_rfl) (by simp) (aR rfl (fun K hK => ?km4011x9) aN)
              case km4011x9 =>
               rw [if_pos (by rfl)]
               go_simp
               have hnW : wn.heap.size ≤ wC.heap.size := hH.size
               refine hK.out _ _ (hH.alloc _) (fun hH => ?_)
               clear hK K
               try simp only [aT,aZ,aS]
               obtain ⟨wN,hwN⟩ : ∃ x,wC.alloc (.cells #[.string ⟨#[]⟩,.int .i64 0,.string ⟨#[]⟩,.string ⟨#[]⟩,.slice none 0 0] 35) = x := ⟨_,rfl⟩
               have xn : Ext wC wN := by rw [← hwN]; exact (Ext.refl _).alloc _
               have al : FamIn wC.heap.size ⟨#[]⟩ 0 ⟨#[]⟩ ⟨#[]⟩ (.slice none 0 0) wN := by rw [← hwN]; exact heap_last _ _
               rw [hwN] at hH ⊢
               clear hwN
               refine wR (rs := [10]) (by kernel_rfl) (by simp) (aR rfl (fun K hK => ?km4010x10) aN)
               case km4010x10 =>
                rw [if_pos (by rfl)]
                obtain ⟨d0,d1,d2,d3,d4⟩ := al.cells
                have fr := fun o => al.free o
                go_simp
                refine hK.out _ _ (((((hH.setC wC.heap.size 0 _ hnW).setC wC.heap.size 1 _ hnW).setC wC.heap.size 2 _ hnW).setC wC.heap.size 3 _ hnW).setC wC.heap.size 4 _ hnW) (fun hH => ?_)
                clear hK K fr d0 d1 d2 d3 d4
                try simp only [aT,aZ,aS]
                refine tk 11 rfl (by kernel_rfl) (fun _ _ _ h => h) rfl (fun w9 hS9 => by go_simp; (try rfl)) hH ?_
                try simp only [Act.put,aT,aZ,aS]
                refine wpAnyH_done (by kernel_rfl) ?_ _
                go_wp2_with fail
                go_meet
                case rel =>
                 exact ⟨_,q2,ok2,rfl,rfl,al.all q2,hRq2.ext (((((xn.setC wC.heap.size 0 _ (Nat.le_refl _)).setC wC.heap.size 1 _ (Nat.le_refl _)).setC wC.heap.size 2 _ (Nat.le_refl _)).setC wC.heap.size 3 _ (Nat.le_refl _)).setC wC.heap.size 4 _ (Nat.le_refl _)),hMq,k3,hH⟩
             case km4018x9 =>
              rw [if_pos (by rfl)]
              go_simp
              have hnW : wn.heap.size ≤ w0.heap.size := hH.size
              refine hK.out _ _ (hH.alloc _) (fun hH => ?_)
              clear hK K
              try simp only [aT,aZ,aS]
              obtain ⟨wN,hwN⟩ : ∃ x,w0.alloc (.cells #[.string ⟨#[]⟩,.int .i64 0,.string ⟨#[]⟩,.string ⟨#[]⟩,.slice none 0 0] 35) = x := ⟨_,rfl⟩
              have xn : Ext w0 wN := by rw [← hwN]; exact (Ext.refl _).alloc _
              have al : FamIn w0.heap.size ⟨#[]⟩ 0 ⟨#[]⟩ ⟨#[]⟩ (.slice none 0 0) wN := by rw [← hwN]; exact heap_last _ _
              rw [hwN] at hH ⊢
              clear hwN
              have hnl : w0.heap.size < wN.heap.size := al.lt
              refine wR (rs := [5]) (by kernel_rfl) (by simp) (aR rfl (fun K hK => ?km4017x5) aN)
              case km4017x5 =>
               rw [if_pos (by rfl)]
               go_simp
               go_at_call 30
               (with_reducible refine (CP _ hH).mono ?_)
               rintro e wC ⟨⟨q2,ok2,rfl,hRq,hMq,k1,k2⟩,xc⟩
               have k3 := Lib.hid (And.intro k1 (fun h => (k2 h).1))
               clear k1 k2
               refine hK.out _ _ (hH.trans xc) (fun hH => ?_)
               clear hK K
               try simp only [aT,aZ,aS]
               replace al := al.ext xc
               refine tk 6 rfl (by kernel_rfl) (fun _ _ _ h => h) rfl (fun w9 hS9 => by go_simp; (try rfl)) hH ?_
               try simp only [Act.put,aT,aZ,aS]
               refine tk 7 rfl (by kernel_rfl) (fun _ _ _ h => h) rfl (fun w9 hS9 => by go_simp; (try rfl)) hH ?_
               try simp only [Act.put,aT,aZ,aS]
               refine tk 8 rfl (by kernel_rfl) (fun _ _ _ h => h) rfl (fun w9 hS9 => by go_simp; (try rfl)) hH ?_
               try simp only [Act.put,aT,aZ,aS]
               refine wR (rs := [10]) (by kernel_rfl) (by simp) (aR rfl (fun K hK => ?km4016x10) aN)
               case km4016x10 =>
                rw [if_pos (by rfl)]
                obtain ⟨d0,d1,d2,d3,d4⟩ := al.cells
                have fr := fun o => al.free o
                go_simp
                refine hK.out _ _ (((((hH.setC w0.heap.size 0 _ hnW).setC w0.heap.size 1 _ hnW).setC w0.heap.size 2 _ hnW).setC w0.heap.size 3 _ hnW).setC w0.heap.size 4 _ hnW) (fun hH => ?_)
                clear hK K fr d0 d1 d2 d3 d4
                try simp only [aT,aZ,aS]
                refine tk 11 rfl (by kernel_rfl) (fun _ _ _ h => h) rfl (fun w9 hS9 => by go_simp; (try rfl)) hH ?_
                try simp only [Act.put,aT,aZ,aS]
                refine wpAnyH_done (by kernel_rfl) ?_ _
                go_wp2_with fail
                go_meet
                case rel =>
                 exact ⟨_,q2,ok2,rfl,rfl,al.all q2,(((((hRq.setC w0.heap.size 0 _ hnl).setC w0.heap.size 1 _ hnl).setC w0.heap.size 2 _ hnl).setC w0.heap.size 3 _ hnl).setC w0.heap.size 4 _ hnl).famP (Nat.lt_of_lt_of_le hgn (Nat.le_trans hnW (Nat.le_of_lt hnl))),hMq,k3,hH⟩
            case rest =>
             obtain ⟨nb,q9,ok2,rfl,rfl,al,hfp,hmem,k3,xx⟩ := hcut
             replace gX := gX.ext xx
             replace gR := gR.ext xx
             replace hO := hO.ext xx
             replace hrow := hrow.keep (xx.heap hgn)
             replace xw := xw.trans xx
             replace hNn := Nat.le_trans hNn xx.size
             replace q0 := (Ext.cell xx hgn).trans q0
             replace q1 := (Ext.cell xx hgn).trans q1
             replace q2 := (Ext.cell xx hgn).trans q2
             replace q3 := (Ext.cell xx hgn).trans q3
             replace q4 := (Ext.cell xx hgn).trans q4
             clear CP okQ smQ szQ
             cases ok2
             ·have hM := Lib.hid (hQn.out (by
               obtain ⟨h1,h2⟩ := hjy.out
               rw [takeY_at hdL.out h1 (by rw [h2]; exact hjn.out),h2,k3.out.2 rfl]
               rfl))
              obtain ⟨e0,e1⟩ := gR.cells
              have fr := fun o => gR.free o
              clear hQn hQt k3 al hO hrow q0 q1 q2 q3 q4
              go_wp2_with fail
              refine bodyPost_ret (v := .tuple #[.agg #[.string ⟨#[]⟩,.slice none 0 0],.int .i64 13]) ?_ rfl ⟨MergeIs.fail hM.out,(xw.setC B 0 _ hwB).setC B 1 _ hwB⟩
              simp [results,Tryz.results25,go_sem,e0,e1]
             ·have hQ2 := Lib.hid (hQt.out ((L.set j q9).map FamD.y) (by
               obtain ⟨h1,h2⟩ := hjy.out
               rw [takeY_at hdL.out h1 (by rw [h2]; exact hjn.out),h2,k3.out.1 rfl,Option.map_some,List.map_set]))
              obtain ⟨s0,s1,s2,s3,s4⟩ := al.cells
              have fr := fun o => hrow.free o
              have hO5 := hO.put hj hfp (fun p hp => by
               rcases List.mem_append.1 (hmem p hp) with h | h
               ·exact okQ2 p h
               ·exact okP.2 p h)
              have hwg : w.heap.size ≤ g := by omega
              have x9 := (((((xw.setC g (j * 5) (.string q9.nm) hwg).setC g (j * 5 + 1) (.int .i64 q9.k) hwg).setC g (j * 5 + 2) (.string q9.un) hwg).setC g (j * 5 + 3) (.string q9.he) hwg).setC g (j * 5 + 4) (.slice q9.pa q9.ps.length q9.pc) hwg)
              have gX5 := (((((gX.setC g (j * 5) (.string q9.nm) (by omega)).setC g (j * 5 + 1) (.int .i64 q9.k) (by omega)).setC g (j * 5 + 2) (.string q9.un) (by omega)).setC g (j * 5 + 3) (.string q9.he) (by omega)).setC g (j * 5 + 4) (.slice q9.pa q9.ps.length q9.pc) (by omega))
              have gR5 := (((((gR.setC g (j * 5) (.string q9.nm) (by omega)).setC g (j * 5 + 1) (.int .i64 q9.k) (by omega)).setC g (j * 5 + 2) (.string q9.un) (by omega)).setC g (j * 5 + 3) (.string q9.he) (by omega)).setC g (j * 5 + 4) (.slice q9.pa q9.ps.length q9.pc) (by omega))
              have hN5 : N ≤ ((((((wc.setCell ⟨g,j * 5,none⟩ (.string q9.nm)).setCell ⟨g,j * 5 + 1,none⟩ (.int .i64 q9.k)).setCell ⟨g,j * 5 + 2,none⟩ (.string q9.un)).setCell ⟨g,j * 5 + 3,none⟩ (.string q9.he)).setCell ⟨g,j * 5 + 4,none⟩ (.slice q9.pa q9.ps.length q9.pc))).heap.size := by rw [World.size_setCell,World.size_setCell,World.size_setCell,World.size_setCell,World.size_setCell]; exact hNn
              replace hO5 := Lib.hid hO5
              replace x9 := Lib.hid x9
              replace gX5 := Lib.hid gX5
              replace gR5 := Lib.hid gR5
              replace hN5 := Lib.hid hN5
              clear hQn hQt k3 hO hjy hfp hmem okQ2
              go_wp2_with fail
              go_roundw
              case rel => exact ⟨m + 1,L.set j q9,rfl,hmt,hQ2,hO5.out,gX5.out,gR5.out,x9.out,hN5.out⟩
              case measure => simp only [intOf]; omega
        ·have m1 : ¬ (m : Int) < (pfs.length : Int) := by omega
         obtain rfl : m = pfs.length := by omega
         have hQ2 : Hid (takesY [] (((l.take (k + 1)).map BatD.y).flatMap (fun b => b.2)) = some (L.map FamD.y)) := Lib.hid (by
          rw [hft.out,← hQ.out,List.take_of_length_le (by simp)])
         clear hQ hFL
         go_wp2_with fail
         go_roundw
         case rel => exact ⟨k + 1,L,rfl,hlt,hQ2,hO,gX,gR,xw,hNq⟩
         case measure => simp only [intOf]; omega
      ·have i9 : ¬ (k : Int) < (l.length : Int) := by omega
       obtain rfl : k = l.length := by omega
       rw [List.take_length] at hQ
       obtain ⟨av,cv,hv,hFL⟩ := hO.fams xw
       subst hv
       have hfb := flat_bounds l hall.out
       have hbd := takesY_bounds _ [] _ hQ.out (by intro x hx; cases hx) (fun f hf => by
        obtain ⟨y,hy,hfy⟩ := List.mem_flatMap.1 hf
        obtain ⟨x,hx,rfl⟩ := List.mem_map.1 hy
        obtain ⟨z,hz,rfl⟩ := List.mem_map.1 hfy
        exact (low x hx).2.2 z hz) (by simp only [ptsN]; omega)
       have hLl : L.length ≤ 900 := by
        have h1 := hbd.1
        rw [List.length_map] at h1
        simp only [List.length_nil] at h1
        omega
       have hsL : ∀ x ∈ L,x.y.Sm := fun x hx => hbd.2.2 x.y (List.mem_map_of_mem hx)
       have hnice : Nice (L.map FamD.y) := by
        rcases joins_look ((l.map BatD.y).map (fun b => b.2)) [] Nice.nil (fun x hx => by
         obtain ⟨y,hy,rfl⟩ := List.mem_map.1 hx
         obtain ⟨z,hz,rfl⟩ := List.mem_map.1 hy
         exact (hall.out z hz).nice) with ⟨M,h1,h2,_⟩ | ⟨h1,_⟩
        ·have h3 := hQ.out.symm.trans h1
         injection h3 with h3
         exact h3 ▸ h2
        ·have h3 := hQ.out.symm.trans h1
         cases h3
       obtain ⟨M,hMp,hMr⟩ := sort_ris cmpNm_cmp _ (dst_cmp hnice.dst)
       have hsb : Hid (sortB (L.map FamD.y) = some M) := Lib.hid (by
        unfold sortB
        rw [srts_self (fun f hf => goodF_ris (hnice.good f hf)),Option.bind_some,sortN_some hMp hMr])
       have hgo2 : Hid (mergeY (l.map BatD.y) = if checkB T0 M = 0 then (0,T0,M) else (checkB T0 M,⟨#[]⟩,[])) := Lib.hid (by
        rw [hgo.out]
        unfold mergeG
        rw [hQ.out]
        dsimp only
        rw [hsb.out])
       have hMs : ∀ f ∈ M,f.Sm := fun f hf => hbd.2.2 f (hMp.subset hf)
       have hMl : M.length ≤ 900 := by rw [hMp.length_eq,List.length_map]; exact hLl
       have CS := rSortFams_any av cv L wr (by omega) hFL hsL
       have okL := hO.ok
       rw [hsb.out] at CS
       have hXz : X < wr.heap.size := gX.lt
       have hBz : B < wr.heap.size := gR.lt
       clear hQ hbd hfb hgo hO hall hAt hA hFL hnice hMp hMr hsb low hsL
       go_wp2_with fail
       (with_reducible refine CS.mono ?_)
       rintro e w5 ⟨⟨a3,c3,L3,ok3,rfl,hRF,hOut,k1,k2⟩,y5⟩
       clear CS
       cases ok3
       ·have := (k2 rfl).1; cases this
       have hL3 : Hid (M = L3.map FamD.y) := Lib.hid (by have := k1 rfl; injection this)
       clear k1 k2
       replace gX := gX.ext y5
       replace gR := gR.ext y5
       replace xw := xw.trans y5
       have fr := fun o => gX.free o
       obtain ⟨e0,e1⟩ := gX.cells
       have gX5 := gX.set1 (.slice a3 L3.length c3)
       have gR5 := gR.setC X 1 (.slice a3 L3.length c3) (by omega)
       have x5 := xw.setC X 1 (.slice a3 L3.length c3) hXw
       have hRF5 := hRF.setC X 1 (.slice a3 L3.length c3) hXz
       have hOut5 := hOut.setC X 1 (.slice a3 L3.length c3) hXz
       have okO : ∀ f ∈ L3,∀ p ∈ f.ps,p.Ok w := fun f hf p hp => by
        obtain ⟨f0,h3,h4⟩ := (hOut f hf).2 p hp
        exact okL f0 h3 p h4
       have hF5 : FamsA a3 L3 (w5.setCell ⟨X,1,none⟩ (.slice a3 L3.length c3)) := hRF5.fams (fun f hf => (hOut5 f hf).1.pts (fun p hp => (okO f hf p hp).ext x5))
       have hl3 : L3.length ≤ 900 := by have := congrArg List.length hL3.out; rw [List.length_map] at this; omega
       have hs3 : ∀ f ∈ L3,f.y.Sm := fun f hf => hMs f.y (by rw [hL3.out]; exact List.mem_map_of_mem hf)
       obtain ⟨w6,hw6⟩ : ∃ x,w5.setCell ⟨X,1,none⟩ (.slice a3 L3.length c3) = x := ⟨_,rfl⟩
       rw [hw6] at gX5 gR5 x5 hRF5 hOut5 hF5
       have CK := rCheck_any T0 a3 c3 L3 w6 (by omega) hT0s hF5 hs3
       obtain ⟨r,hr⟩ : ∃ r,checkB T0 (L3.map FamD.y) = r := ⟨_,rfl⟩
       rw [hr] at CK
       have hM := hgo2.out
       rw [hL3.out,hr] at hM
       replace hM := Lib.hid hM
       replace hr := Lib.hid hr
       obtain ⟨d0,d1⟩ := gX5.cells
       clear hgo2 hF5 hMs gX gR xw hRF hOut okL
       go_wp2_with fail
       (with_reducible refine CK.mono ?_)
       rintro e w7 ⟨rfl,y7⟩
       clear CK e0 e1 d0 d1 fr hw6
       replace gX5 := gX5.ext y7
       replace gR5 := gR5.ext y7
       have x7 := x5.trans y7
       obtain ⟨d0,d1⟩ := gX5.cells
       obtain ⟨e0,e1⟩ := gR5.cells
       have fr := fun o => gR5.free o
       by_cases hr0 : r = 0
       ·subst hr0
        have hM2 : Hid (mergeY (l.map BatD.y) = (0,T0,L3.map FamD.y)) := Lib.hid (by rw [hM.out,if_pos rfl])
        have XF := (x7.setC B 0 (.string T0) hwB).setC B 1 (.slice a3 L3.length c3) hwB
        have hBb : B < wr.heap.size := hBz
        have hRF7 := ((hRF5.ext y7).setC B 0 (.string T0) hBb).setC B 1 (.slice a3 L3.length c3) hBb
        have hOut7 := ((hOut5.ext y7).setC B 0 (.string T0) hBb).setC B 1 (.slice a3 L3.length c3) hBb
        have hF7 := Lib.hid (hRF7.fams (fun f hf => (hOut7 f hf).1.pts (fun p hp => (okO f hf p hp).ext XF)))
        have hlow : Hid (Low T0 L3) := Lib.hid (by
         have h1 := GoodB.of hr.out
         exact h1.low)
        replace XF := Lib.hid XF
        clear hM hRF7 hOut7 hRF5 hOut5 okO
        go_wp2_with fail
        refine bodyPost_ret (v := .tuple #[.agg #[.string T0,.slice a3 L3.length c3],.int .i64 0]) ?_ rfl ⟨⟨0,T0,a3,c3,L3,hM2.out,rfl,hF7.out,hlow.out⟩,XF.out⟩
        simp [results,Tryz.results25,go_sem,e0,e1]
       ·have hM2 : Hid (mergeY (l.map BatD.y) = (r,⟨#[]⟩,[])) := Lib.hid (by rw [hM.out,if_neg hr0])
        have hrb : (r != 0) = true := by simpa using hr0
        clear hM hRF5 hOut5 okO
        go_wp2_with fail
        refine bodyPost_ret (v := .tuple #[.agg #[.string ⟨#[]⟩,.slice none 0 0],.int .i64 r]) ?_ rfl ⟨MergeIs.fail hM2.out,(x7.setC B 0 _ hwB).setC B 1 _ hwB⟩
        simp [results,Tryz.results25,go_sem,e0,e1]
end Go.Proofs.YtjjnmefihdjglaaGreat
