import Derived.Test.YtjjnmefihdjglaaGreatRsH
import Derived.Test.YtjjnmefihdjglaaGreatSmA
set_option maxRecDepth 100000
set_option maxHeartbeats 64000000
set_option linter.all false
namespace Go.Proofs.YtjjnmefihdjglaaGreat
open Go.RowKit
theorem Low.filter {t : ByteArray} {l L : List FamD} {p : FamY → Bool} (h : Low t l) (e : L.map FamD.y = (l.map FamD.y).filter p) : Low t L := by
 refine ⟨?_,h.2.1,fun f hf => ?_⟩
 ·have h1 := congrArg List.length e
  have h2 := List.length_filter_le p (l.map FamD.y)
  rw [List.length_map] at h1 h2
  have := h.1
  omega
 ·have h1 : f.y ∈ L.map FamD.y := List.mem_map_of_mem hf
  rw [e] at h1
  obtain ⟨g,hg,e2⟩ := List.mem_map.1 (List.mem_filter.1 h1).1
  exact e2 ▸ h.2.2 g hg
theorem sameT {t1 t2 : ByteArray} {A a : Option Addr} {C c : Nat} {L l : List FamD} {w : World} (h1 : FamsA A L w) (h2 : FamsA a l w) (z1 : Low t1 L) (z2 : Low t2 l) (et : t1 = t2) (e : L.map FamD.y = l.map FamD.y) :
  Calls Tryz.prog 26 #[.agg #[.string t1,.slice A L.length C],.agg #[.string t2,.slice a l.length c]] w fun e w' => e = .returned (.bool true) ∧ Ext w w' := by
 have h := rSame_any t1 A C L t2 a c l w z1.big.1 z2.big.1 h1 h2 z1.2.2 z2.2.2
 rw [e,sameFs_refl,decide_eq_true et] at h
 exact h
theorem PutTold.get {a b : FamY} {base : Nat} {e : Ending} {w' : World} (h : PutTold a b base e w') :
  ∃ (q : FamD) (ok : Bool),e = .returned (.tuple #[.agg #[.string q.nm,.int .i64 q.k,.string q.un,.string q.he,.slice q.pa q.ps.length q.pc],.bool ok]) ∧ PtsA q.pa q.ps w' ∧ q.Blk (fun b => base ≤ b ∧ b < w'.heap.size) ∧ ((ok = true → putY a b = some q.y) ∧ (ok = false → putY a b = none ∧ q.y = FamD.zero.y)) := by
 rcases h with ⟨q,h1,h2,h3,h4⟩ | ⟨h1,h2⟩
 ·exact ⟨q,true,h2,h3,h4,(fun _ => h1),fun h => by cases h⟩
 ·exact ⟨FamD.zero,false,h2,⟨fun h => absurd h (by simp [FamD.zero]),by intro p hp; simp [FamD.zero] at hp⟩,⟨by intro x hx; simp [FamD.zero] at hx,by intro p hp; simp [FamD.zero] at hp⟩,(fun h => by cases h),fun _ => ⟨h1,rfl⟩⟩
theorem FamD.Blk.set5 {q : FamD} {base nb : Nat} {w : World} (hb : q.Blk (fun b => base ≤ b ∧ b < w.heap.size)) (hq : PtsA q.pa q.ps w) (hn : nb < base) {u0 u1 u2 u3 u4 : Value} :
  PtsA q.pa q.ps (((((w.setCell ⟨nb,0,none⟩ u0).setCell ⟨nb,1,none⟩ u1).setCell ⟨nb,2,none⟩ u2).setCell ⟨nb,3,none⟩ u3).setCell ⟨nb,4,none⟩ u4) := by
 have S := fun (w1 : World) (h : PtsA q.pa q.ps w1) (o : Nat) (u : Value) => h.sta (sta_setC w1 nb o u) (fun x hx => by have := (hb.pa x hx).1; omega) (fun p hp x hx => by have := (hb.ps p hp x hx).1; omega)
 exact S _ (S _ (S _ (S _ (S _ hq _ _) _ _) _ _) _ _) _ _
theorem puts_same {a b : FamY} {q1 q2 : FamD} {o1 o2 : Bool} (h1 : (o1 = true → putY a b = some q1.y) ∧ (o1 = false → putY a b = none ∧ q1.y = FamD.zero.y)) (h2 : (o2 = true → putY a b = some q2.y) ∧ (o2 = false → putY a b = none ∧ q2.y = FamD.zero.y)) : o1 = o2 ∧ q1.y = q2.y := by
 cases o1 <;> cases o2
 ·exact ⟨rfl,(h1.2 rfl).2.trans (h2.2 rfl).2.symm⟩
 ·have := (h1.2 rfl).1.symm.trans (h2.1 rfl); cases this
 ·have := (h2.2 rfl).1.symm.trans (h1.1 rfl); cases this
 ·have := (h1.1 rfl).symm.trans (h2.1 rfl)
  injection this with this
  exact ⟨rfl,this⟩
theorem putY_Sm {a b : FamY} {q : FamD} {ok : Bool} (h : (ok = true → putY a b = some q.y) ∧ (ok = false → putY a b = none ∧ q.y = FamD.zero.y)) (sa : a.Sm) (sb : b.Sm) (hl : a.ps.length + b.ps.length ≤ 1000) : q.y.Sm := by
 cases ok
 ·rw [(h.2 rfl).2]
  exact ⟨by show (0 : Nat) ≤ 1000; decide,by show (0 : Nat) ≤ 1000; decide,by show (0 : Nat) ≤ 1000; decide,by show (0 : Nat) ≤ 1000; decide,by intro q hq; cases hq⟩
 ·exact putY_sm (h.1 rfl) sa sb hl
theorem MergeTells_main (A : Option Addr) (c : Nat) (l : List BatD) (na : Option Addr) (nc : Nat) (nms : List ByteArray) (w : World) (hlm : (l.length : Int) ≤ 9223372036854775807) (hA : BatsA A l w) (hG : ∀ x ∈ l,BatGot w x.tn x.fa x.fc x.fs) (hN : StrsA na nms w) (hnl : (nms.length : Int) ≤ 9223372036854775807) :
  Calls Tryz.prog 7 #[.slice A l.length c,.slice na nms.length nc] w fun e w' => e = .returned (.bool true) ∧ Ext w w' := by
 go_enter Tryz.func7,Tryz.ntmps7
 go_wp2_with fail
 (with_reducible refine (known11_any _).mono ?_)
 rintro e w1 ⟨rfl,z1⟩
 replace hA := hA.ext z1
 replace hN := hN.ext z1
 have hlm2 : ∀ x ∈ l,(x.fs.length : Int) ≤ 9223372036854775807 := fun x hx => (hG x hx).len
 have hfl : ∀ x ∈ l,∀ f ∈ x.fs,(f.ps.length : Int) ≤ 9223372036854775807 := fun x hx f hf => ((hG x hx).got f hf).ext0
 clear hG
 by_cases h4 : 4 < l.length
 ·have h4' : (4 : Int) < (l.length : Int) := by omega
  go_wp2_with fail
  go_ret
  exact ⟨rfl,z1⟩
 have h4' : ¬ (4 : Int) < (l.length : Int) := by omega
 by_cases h8 : 8 < nms.length
 ·have h8' : (8 : Int) < (nms.length : Int) := by omega
  go_wp2_with fail
  go_ret
  exact ⟨rfl,z1⟩
 have h8' : ¬ (8 : Int) < (nms.length : Int) := by omega
 go_wp2_with fail
 go_loopw [5] (fun i wr => ∃ k : Nat,i = .int .i64 k ∧ k ≤ l.length ∧ Hid (∀ j (h : j < l.length),j < k → Low l[j].tn l[j].fs ∧ ∀ f ∈ l[j].fs,f.Nar) ∧ Ext w1 wr) (fun i _ => l.length - (intOf i).toNat)
 case atStart => exact ⟨0,rfl,Nat.zero_le _,Lib.hid (fun _ _ h => absurd h (Nat.not_lt_zero _)),Ext.refl _⟩
 case round =>
  obtain ⟨k,rfl,hk,hQ,xr⟩ := hrel
  by_cases hlt : k < l.length
  ·obtain ⟨b,o,rfl,hb,hB⟩ := hA.1 (by omega)
   have hf := (hA.2 _ (List.getElem_mem hlt)).ext xr
   have y1 := hlm2 _ (List.getElem_mem hlt)
   have y2 := hfl _ (List.getElem_mem hlt)
   obtain ⟨v0,v1⟩ := hB k hlt
   obtain ⟨x,hx⟩ : ∃ x,l[k] = x := ⟨_,rfl⟩
   rw [hx] at hf y1 y2 v0 v1
   replace v0 := (Ext.cell xr hb).trans v0
   replace v1 := (Ext.cell xr hb).trans v1
   have i1 : (k : Int) < (l.length : Int) := by omega
   have WI := wide_any x.tn x.fa x.fc x.fs wr y1 hf y2
   clear hB hf y1 y2 hlm2 hfl hA
   go_wp2_with fail
   (with_reducible refine WI.mono ?_)
   rintro e w2 ⟨⟨sb,rfl,hsb⟩,xm⟩
   cases sb
   rotate_left
   ·clear hsb hQ hx
    go_wp2_with fail
    go_ret
    exact ⟨rfl,(z1.trans xr).trans xm⟩
   have hQ2 : Hid (∀ j (h : j < l.length),j < k + 1 → Low l[j].tn l[j].fs ∧ ∀ f ∈ l[j].fs,f.Nar) := Lib.hid (fun j h hj => by
    by_cases e : j = k
    ·subst e
     rw [hx]
     obtain ⟨h40,h100,hnar⟩ := hsb rfl
     exact ⟨⟨by omega,by omega,fun f hf => (hnar f hf).sm⟩,hnar⟩
    ·exact hQ.out j h (by omega))
   clear hsb hQ hx WI
   go_wp2_with fail
   go_roundw
   case rel => exact ⟨k + 1,rfl,hlt,hQ2,xr.trans xm⟩
   case measure => simp only [intOf]; omega
  ·have i1 : ¬ (k : Int) < (l.length : Int) := by omega
   have low : ∀ x ∈ l,Low x.tn x.fs := fun x hx => by
    obtain ⟨j,hj,e⟩ := List.getElem_of_mem hx
    have := hQ.out j hj (by omega)
    rw [e] at this; exact this.1
   have nar : ∀ x ∈ l,∀ f ∈ x.fs,f.Nar := fun x hx => by
    obtain ⟨j,hj,e⟩ := List.getElem_of_mem hx
    have := hQ.out j hj (by omega)
    rw [e] at this; exact this.2
   replace hA := hA.ext xr
   replace hN := hN.ext xr
   replace z1 := z1.trans xr
   clear hQ xr hlm2 hfl hlt hk
   have ME := merge_any A c l wr hA (by omega) (fun x hx => (low x hx).big)
   go_wp2_with fail
   (with_reducible refine ME.mono ?_)
   rintro e w2 ⟨hm,xm⟩
   obtain ⟨r,tn,aM,cM,M,eM,rfl,hM,lowM⟩ := hm.mis
   clear ME hm
   have xa := (Ext.refl w2).alloc (.cells #[.string tn,.slice aM M.length cM] 27)
   have gM : BatIn w2.heap.size tn (.slice aM M.length cM) (w2.alloc (.cells #[.string tn,.slice aM M.length cM] 27)) := heap_last _ _
   replace xm := xm.trans xa
   replace hA := hA.ext xm
   replace hN := hN.ext xm
   replace hM := hM.ext xa
   replace z1 := z1.trans xm
   obtain ⟨V1,hV1⟩ : ∃ V,w2.alloc (.cells #[.string tn,.slice aM M.length cM] 27) = V := ⟨_,rfl⟩
   rw [hV1] at gM hA hN hM z1
   clear xa xm
   have DM := rMerge_any A c l V1 hA (by omega) low
   go_wp2_with fail
   (with_reducible refine DM.mono ?_)
   rintro e w3 ⟨hm,xm⟩
   obtain ⟨aD,cD,D,eD,rfl,hD,lowD⟩ := hm.is eM
   clear DM hm hV1
   have xa := (Ext.refl w3).alloc (.cells #[.string tn,.slice aD D.length cD] 27)
   have gD : BatIn w3.heap.size tn (.slice aD D.length cD) (w3.alloc (.cells #[.string tn,.slice aD D.length cD] 27)) := heap_last _ _
   replace xm := xm.trans xa
   replace gM := gM.ext xm
   replace hA := hA.ext xm
   replace hN := hN.ext xm
   replace hM := hM.ext xm
   replace hD := hD.ext xa
   replace z1 := z1.trans xm
   obtain ⟨V2,hV2⟩ : ∃ V,w3.alloc (.cells #[.string tn,.slice aD D.length cD] 27) = V := ⟨_,rfl⟩
   rw [hV2] at gM gD hA hN hM hD z1
   clear xa xm
   have SA := sameT (C := cM) (c := cD) hM hD lowM lowD rfl eD.symm
   obtain ⟨x0,x1⟩ := gM.cells
   obtain ⟨y0,y1⟩ := gD.cells
   have rn : (r != r) = false := by simp
   clear eM eD lowM lowD
   go_wp2_with fail
   (with_reducible refine SA.mono ?_)
   rintro e w4 ⟨rfl,xm⟩
   replace hA := hA.ext xm
   replace hN := hN.ext xm
   replace z1 := z1.trans xm
   clear SA gM gD x0 x1 y0 y1 hM hD hV2 xm rn
   go_wp2_with fail
   go_loopw [10] (fun i wq => ∃ k : Nat,i = .int .i64 k ∧ k ≤ l.length ∧ Ext w4 wq) (fun i _ => l.length - (intOf i).toNat)
   case atStart => exact ⟨0,rfl,Nat.zero_le _,Ext.refl _⟩
   case round =>
    rename World => wq
    obtain ⟨k,rfl,hk,xr⟩ := hrel
    replace hA := hA.ext xr
    replace hN := hN.ext xr
    replace z1 := z1.trans xr
    by_cases hlt : k < l.length
    ·obtain ⟨b,o,rfl,hbq,hB⟩ := hA.1 (by omega)
     have hfx := hA.2 _ (List.getElem_mem hlt)
     have lowx := low _ (List.getElem_mem hlt)
     obtain ⟨v0,v1⟩ := hB k hlt
     generalize l[k] = x at *
     have i0 : (k : Int) < (l.length : Int) := by omega
     have MI := fun W (y : Ext wq W) => minus_any x.tn x.fa x.fc x.fs na nc nms W lowx.1 (hfx.ext y) lowx.2.2 (hN.ext y) (by omega)
     have MJ := fun W (y : Ext wq W) => rMinus_any x.tn x.fa x.fc x.fs na nc nms W lowx.1 (hfx.ext y) (hN.ext y) (by omega)
     clear hB
     go_wp2_with fail
     refine wp_region_held_drew (S := Ext wq) (by kernel_rfl) ((Ext.refl wq).drew) (fun hH => ?_)
     refine tk 0 rfl (by kernel_rfl) (fun _ _ _ h => h) rfl (fun w9 hS9 => by go_simp; (try rfl)) hH ?_
     try simp only [Act.put,aT,aZ,aS]
     refine tk 1 rfl (by kernel_rfl) (fun _ _ _ h => h) rfl (fun w9 hS9 => by go_simp; (try rfl)) hH ?_
     try simp only [Act.put,aT,aZ,aS]
     refine tk 2 rfl (by kernel_rfl) (fun _ _ _ h => h) rfl (fun w9 hS9 => by go_simp; (try rfl)) hH ?_
     try simp only [Act.put,aT,aZ,aS]
     refine tk 3 rfl (by kernel_rfl) (fun _ _ _ h => h) rfl (fun w9 hS9 => by replace v0 := (Ext.cell hS9 hbq).trans v0; replace v1 := (Ext.cell hS9 hbq).trans v1; go_simp; (try rfl)) hH ?_
     try simp only [Act.put,aT,aZ,aS]
     refine tk 4 rfl (by kernel_rfl) (fun _ _ _ h => h) rfl (fun w9 hS9 => by go_simp; (try rfl)) hH ?_
     try simp only [Act.put,aT,aZ,aS]
     refine tk 6 rfl (by kernel_rfl) (fun _ _ _ h => h) rfl (fun w9 hS9 => by go_simp; (try rfl)) hH ?_
     try simp only [Act.put,aT,aZ,aS]
     refine tk 7 rfl (by kernel_rfl) (fun _ _ _ h => h) rfl (fun w9 hS9 => by go_simp; (try rfl)) hH ?_
     try simp only [Act.put,aT,aZ,aS]
     refine tk 8 rfl (by kernel_rfl) (fun _ _ _ h => h) rfl (fun w9 hS9 => by go_simp; (try rfl)) hH ?_
     try simp only [Act.put,aT,aZ,aS]
     refine tk 9 rfl (by kernel_rfl) (fun _ _ _ h => h) rfl (fun w9 hS9 => by replace v0 := (Ext.cell hS9 hbq).trans v0; replace v1 := (Ext.cell hS9 hbq).trans v1; go_simp; (try rfl)) hH ?_
     try simp only [Act.put,aT,aZ,aS]
     refine tk 10 rfl (by kernel_rfl) (fun _ _ _ h => h) rfl (fun w9 hS9 => by go_simp; (try rfl)) hH ?_
     try simp only [Act.put,aT,aZ,aS]
     obtain ⟨w0,hw0⟩ : ∃ x,wq.drew = x := ⟨_,rfl⟩
     rw [hw0] at hH ⊢
     clear hw0
     refine wR (rs := [5]) (by kernel_rfl) (by simp) (aR rfl (fun K hK => ?km6014x5) aN)
     case km6014x5 =>
      rw [if_pos (by rfl)]
      go_simp
      go_at_call 27
      (with_reducible refine (MI _ hH).mono ?_)
      rintro e wC ⟨⟨v5,L5,rfl,hy5,hO5⟩,xc⟩
      obtain ⟨a5,c5,rfl,hF5⟩ := hO5.fams
      refine hK.out _ _ (hH.trans xc) (fun hH => ?_)
      clear hK K hO5
      try simp only [aT,aZ,aS]
      refine wR (rs := [11]) (by kernel_rfl) (by simp) (aR rfl (fun K hK => ?km6013x11) aN)
      case km6013x11 =>
       rw [if_pos (by rfl)]
       go_simp
       go_at_call 28
       (with_reducible refine (MJ _ hH).mono ?_)
       rintro e wD ⟨⟨a6,c6,L6,rfl,hy6,hF6⟩,xc⟩
       replace hF5 := hF5.ext xc
       refine hK.out _ _ (hH.trans xc) (fun hH => ?_)
       clear hK K
       try simp only [aT,aZ,aS]
       refine wR (rs := [12]) (by kernel_rfl) (by simp) (aR rfl (fun K hK => ?km6012x12) aN)
       case km6012x12 =>
        rw [if_pos (by rfl)]
        have SA := sameT (t1 := x.tn) (t2 := x.tn) (C := c5) (c := c6) hF5 hF6 (lowx.filter hy5) (lowx.filter hy6) rfl (hy5.trans hy6.symm)
        go_simp
        go_at_call 26
        (with_reducible refine SA.mono ?_)
        rintro e wE ⟨rfl,xc⟩
        refine hK.out _ _ (hH.trans xc) (fun hH => ?_)
        clear hK K SA
        try simp only [aT,aZ,aS]
        refine tk 13 rfl (by kernel_rfl) (fun _ _ _ h => h) rfl (fun w9 hS9 => by go_simp; (try rfl)) hH ?_
        try simp only [Act.put,aT,aZ,aS]
        refine wpAnyH_done (by kernel_rfl) ?_ _
        go_wp2_with fail
        go_roundw
        case rel => exact ⟨k + 1,rfl,hlt,xr.trans hH⟩
        case measure => simp only [intOf]; omega
    ·have i0 : ¬ (k : Int) < (l.length : Int) := by omega
     by_cases h2 : l.length < 2
     ·have h2' : (l.length : Int) < 2 := by omega
      clear hA low nar
      go_wp2_with fail
      go_ret
      exact ⟨rfl,z1⟩
     have h2' : ¬ (l.length : Int) < 2 := by omega
     obtain ⟨b,o,rfl,hb0,hB⟩ := hA.1 (by omega)
     have k0 : 0 < l.length := by omega
     have k1 : 1 < l.length := by omega
     have m0 := List.getElem_mem k0
     have m1 := List.getElem_mem k1
     obtain ⟨_,va⟩ := hB 0 k0
     obtain ⟨_,vb⟩ := hB 1 k1
     have hFa := hA.2 _ m0
     have hFb := hA.2 _ m1
     have lwa := low _ m0
     have lwb := low _ m1
     have nra := nar _ m0
     have nrb := nar _ m1
     generalize l[0] = xa at *
     generalize l[1] = xb at *
     rw [Nat.zero_mul,Nat.add_zero] at va
     rw [Nat.one_mul] at vb
     have j0 : (0 : Int) < (l.length : Int) := by omega
     have j1 : (1 : Int) < (l.length : Int) := by omega
     clear hB hA low nar m0 m1
     by_cases ha0 : xa.fs.length = 0
     ·have ha0' : (xa.fs.length : Int) = 0 := by omega
      have ha0b : ((xa.fs.length : Int) == 0) = true := by rw [ha0']; rfl
      go_wp2_with fail
      go_ret
      exact ⟨rfl,z1⟩
     have ha0b : ((xa.fs.length : Int) == 0) = false := by rw [beq_eq_false_iff_ne]; omega
     by_cases hb1 : xb.fs.length = 0
     ·have hb1' : (xb.fs.length : Int) = 0 := by omega
      have hb1b : ((xb.fs.length : Int) == 0) = true := by rw [hb1']; rfl
      go_wp2_with fail
      go_ret
      exact ⟨rfl,z1⟩
     have hb1b : ((xb.fs.length : Int) == 0) = false := by rw [beq_eq_false_iff_ne]; omega
     obtain ⟨fb,fo,efa,hfb0,hFt⟩ := hFa.1 (by omega)
     obtain ⟨gb,go,egb,hgb0,hGt⟩ := hFb.1 (by omega)
     have ka : 0 < xa.fs.length := by omega
     have kb : 0 < xb.fs.length := by omega
     obtain ⟨q0,q1,q2,q3,q4⟩ := hFt 0 ka
     obtain ⟨s0,s1,s2,s3,s4⟩ := hGt 0 kb
     have okA := hFa.2 _ (List.getElem_mem ka)
     have okB := hFb.2 _ (List.getElem_mem kb)
     have smA := lwa.2.2 _ (List.getElem_mem ka)
     have smB := lwb.2.2 _ (List.getElem_mem kb)
     have pA := (nra _ (List.getElem_mem ka)).p
     have pB := (nrb _ (List.getElem_mem kb)).p
     generalize xa.fs[0] = f at *
     generalize xb.fs[0] = g at *
     rw [Nat.zero_mul,Nat.add_zero] at q0 q1 q2 q3 q4 s0 s1 s2 s3 s4
     rw [efa] at va
     rw [egb] at vb
     have ja : (0 : Int) < (xa.fs.length : Int) := by omega
     have jb : (0 : Int) < (xb.fs.length : Int) := by omega
     clear hFt hGt efa egb hFa hFb lwa lwb nra nrb
     rename World => wq
     have PP := fun W (x : Ext wq W) => put_any f g W (okA.ext x) (okB.ext x) smA smB (by omega)
     go_upto_region 21 with fail
     go_cut [11,12] (fun s11 s12 wx => ∃ (nb : Nat) (q : FamD) (ok : Bool),s11 = .pointer (some ⟨nb,0,none⟩) ∧ s12 = .bool ok ∧ FamIn nb q.nm q.k q.un q.he (.slice q.pa q.ps.length q.pc) wx ∧ PtsA q.pa q.ps wx ∧ Hid ((ok = true → putY f.y g.y = some q.y) ∧ (ok = false → putY f.y g.y = none ∧ q.y = FamD.zero.y)) ∧ Ext wq wx)
     case first =>
      refine wp_region_held_drew (S := Ext wq) (by kernel_rfl) ((Ext.refl wq).drew) (fun hH => ?_)
      refine tk 0 rfl (by kernel_rfl) (fun _ _ _ h => h) rfl (fun w9 hS9 => by go_simp; (try rfl)) hH ?_
      try simp only [Act.put,aT,aZ,aS]
      refine tk 1 rfl (by kernel_rfl) (fun _ _ _ h => h) rfl (fun w9 hS9 => by go_simp; (try rfl)) hH ?_
      try simp only [Act.put,aT,aZ,aS]
      refine tk 2 rfl (by kernel_rfl) (fun _ _ _ h => h) rfl (fun w9 hS9 => by go_simp; (try rfl)) hH ?_
      try simp only [Act.put,aT,aZ,aS]
      refine tk 3 rfl (by kernel_rfl) (fun _ _ _ h => h) rfl (fun w9 hS9 => by replace va := (Ext.cell hS9 hb0).trans va; go_simp; (try rfl)) hH ?_
      try simp only [Act.put,aT,aZ,aS]
      refine tk 4 rfl (by kernel_rfl) (fun _ _ _ h => h) rfl (fun w9 hS9 => by go_simp; (try rfl)) hH ?_
      try simp only [Act.put,aT,aZ,aS]
      refine tk 5 rfl (by kernel_rfl) (fun _ _ _ h => h) rfl (fun w9 hS9 => by replace q0 := (Ext.cell hS9 hfb0).trans q0; replace q1 := (Ext.cell hS9 hfb0).trans q1; replace q2 := (Ext.cell hS9 hfb0).trans q2; replace q3 := (Ext.cell hS9 hfb0).trans q3; replace q4 := (Ext.cell hS9 hfb0).trans q4; go_simp; (try rfl)) hH ?_
      try simp only [Act.put,aT,aZ,aS]
      refine tk 6 rfl (by kernel_rfl) (fun _ _ _ h => h) rfl (fun w9 hS9 => by go_simp; (try rfl)) hH ?_
      try simp only [Act.put,aT,aZ,aS]
      refine tk 7 rfl (by kernel_rfl) (fun _ _ _ h => h) rfl (fun w9 hS9 => by go_simp; (try rfl)) hH ?_
      try simp only [Act.put,aT,aZ,aS]
      refine tk 8 rfl (by kernel_rfl) (fun _ _ _ h => h) rfl (fun w9 hS9 => by go_simp; (try rfl)) hH ?_
      try simp only [Act.put,aT,aZ,aS]
      refine tk 9 rfl (by kernel_rfl) (fun _ _ _ h => h) rfl (fun w9 hS9 => by replace vb := (Ext.cell hS9 hb0).trans vb; go_simp; (try rfl)) hH ?_
      try simp only [Act.put,aT,aZ,aS]
      refine tk 10 rfl (by kernel_rfl) (fun _ _ _ h => h) rfl (fun w9 hS9 => by go_simp; (try rfl)) hH ?_
      try simp only [Act.put,aT,aZ,aS]
      refine tk 11 rfl (by kernel_rfl) (fun _ _ _ h => h) rfl (fun w9 hS9 => by replace s0 := (Ext.cell hS9 hgb0).trans s0; replace s1 := (Ext.cell hS9 hgb0).trans s1; replace s2 := (Ext.cell hS9 hgb0).trans s2; replace s3 := (Ext.cell hS9 hgb0).trans s3; replace s4 := (Ext.cell hS9 hgb0).trans s4; go_simp; (try rfl)) hH ?_
      try simp only [Act.put,aT,aZ,aS]
      obtain ⟨w0,hw0⟩ : ∃ x,wq.drew = x := ⟨_,rfl⟩
      rw [hw0] at hH ⊢
      clear hw0
      refine wR (rs := [12,16]) (by kernel_rfl) (by simp) (aR rfl (fun K hK => ?km6039x12) (aR rfl (fun K hK => ?km6039x16) aN))
      case km6039x12 =>
       rw [if_pos (by rfl)]
       go_simp
       go_at_call 29
       (with_reducible refine (PP _ hH).mono ?_)
       rintro e wC ⟨hpt,xc⟩
       obtain ⟨q2,ok2,rfl,hRq,hBq,k1⟩ := hpt.get
       have k3 := Lib.hid k1
       clear k1 hpt
       refine hK.out _ _ (hH.trans xc) (fun hH => ?_)
       clear hK K
       try simp only [aT,aZ,aS]
       refine tk 13 rfl (by kernel_rfl) (fun _ _ _ h => h) rfl (fun w9 hS9 => by go_simp; (try rfl)) hH ?_
       try simp only [Act.put,aT,aZ,aS]
       refine tk 14 rfl (by kernel_rfl) (fun _ _ _ h => h) rfl (fun w9 hS9 => by go_simp; (try rfl)) hH ?_
       try simp only [Act.put,aT,aZ,aS]
       refine tk 15 rfl (by kernel_rfl) (fun _ _ _ h => h) rfl (fun w9 hS9 => by go_simp; (try rfl)) hH ?_
       try simp only [Act.put,aT,aZ,aS]
       refine wR (rs := [16]) (by kernel_rfl) (by simp) (aR rfl (fun K hK => ?km6035x16) aN)
       case km6035x16 =>
        rw [if_pos (by rfl)]
        go_simp
        have hnW : wq.heap.size ≤ wC.heap.size := hH.size
        refine hK.out _ _ (hH.alloc _) (fun hH => ?_)
        clear hK K
        try simp only [aT,aZ,aS]
        obtain ⟨wN,hwN⟩ : ∃ x,wC.alloc (.cells #[.string ⟨#[]⟩,.int .i64 0,.string ⟨#[]⟩,.string ⟨#[]⟩,.slice none 0 0] 35) = x := ⟨_,rfl⟩
        have xn : Ext wC wN := by rw [← hwN]; exact (Ext.refl _).alloc _
        have al : FamIn wC.heap.size ⟨#[]⟩ 0 ⟨#[]⟩ ⟨#[]⟩ (.slice none 0 0) wN := by rw [← hwN]; exact heap_last _ _
        rw [hwN] at hH ⊢
        clear hwN
        refine wR (rs := [17]) (by kernel_rfl) (by simp) (aR rfl (fun K hK => ?km6034x17) aN)
        case km6034x17 =>
         rw [if_pos (by rfl)]
         obtain ⟨d0,d1,d2,d3,d4⟩ := al.cells
         have fr := fun o => al.free o
         go_simp
         refine hK.out _ _ (((((hH.setC wC.heap.size 0 _ hnW).setC wC.heap.size 1 _ hnW).setC wC.heap.size 2 _ hnW).setC wC.heap.size 3 _ hnW).setC wC.heap.size 4 _ hnW) (fun hH => ?_)
         clear hK K fr d0 d1 d2 d3 d4
         try simp only [aT,aZ,aS]
         refine tk 18 rfl (by kernel_rfl) (fun _ _ _ h => h) rfl (fun w9 hS9 => by go_simp; (try rfl)) hH ?_
         try simp only [Act.put,aT,aZ,aS]
         refine wpAnyH_done (by kernel_rfl) ?_ _
         go_wp2_with fail
         go_meet
         case rel =>
          exact ⟨_,q2,ok2,rfl,rfl,al.all q2,hRq.ext (((((xn.setC wC.heap.size 0 _ (Nat.le_refl _)).setC wC.heap.size 1 _ (Nat.le_refl _)).setC wC.heap.size 2 _ (Nat.le_refl _)).setC wC.heap.size 3 _ (Nat.le_refl _)).setC wC.heap.size 4 _ (Nat.le_refl _)),k3,hH⟩
      case km6039x16 =>
       rw [if_pos (by rfl)]
       go_simp
       have hnW : wq.heap.size ≤ w0.heap.size := hH.size
       refine hK.out _ _ (hH.alloc _) (fun hH => ?_)
       clear hK K
       try simp only [aT,aZ,aS]
       obtain ⟨wN,hwN⟩ : ∃ x,w0.alloc (.cells #[.string ⟨#[]⟩,.int .i64 0,.string ⟨#[]⟩,.string ⟨#[]⟩,.slice none 0 0] 35) = x := ⟨_,rfl⟩
       have xn : Ext w0 wN := by rw [← hwN]; exact (Ext.refl _).alloc _
       have al : FamIn w0.heap.size ⟨#[]⟩ 0 ⟨#[]⟩ ⟨#[]⟩ (.slice none 0 0) wN := by rw [← hwN]; exact heap_last _ _
       rw [hwN] at hH ⊢
       clear hwN
       have hnl : w0.heap.size < wN.heap.size := al.lt
       refine wR (rs := [12]) (by kernel_rfl) (by simp) (aR rfl (fun K hK => ?km6038x12) aN)
       case km6038x12 =>
        rw [if_pos (by rfl)]
        go_simp
        go_at_call 29
        (with_reducible refine (PP _ hH).mono ?_)
        rintro e wC ⟨hpt,xc⟩
        obtain ⟨q2,ok2,rfl,hRq,hBq,k1⟩ := hpt.get
        have k3 := Lib.hid k1
        clear k1 hpt
        refine hK.out _ _ (hH.trans xc) (fun hH => ?_)
        clear hK K
        try simp only [aT,aZ,aS]
        replace al := al.ext xc
        refine tk 13 rfl (by kernel_rfl) (fun _ _ _ h => h) rfl (fun w9 hS9 => by go_simp; (try rfl)) hH ?_
        try simp only [Act.put,aT,aZ,aS]
        refine tk 14 rfl (by kernel_rfl) (fun _ _ _ h => h) rfl (fun w9 hS9 => by go_simp; (try rfl)) hH ?_
        try simp only [Act.put,aT,aZ,aS]
        refine tk 15 rfl (by kernel_rfl) (fun _ _ _ h => h) rfl (fun w9 hS9 => by go_simp; (try rfl)) hH ?_
        try simp only [Act.put,aT,aZ,aS]
        refine wR (rs := [17]) (by kernel_rfl) (by simp) (aR rfl (fun K hK => ?km6037x17) aN)
        case km6037x17 =>
         rw [if_pos (by rfl)]
         obtain ⟨d0,d1,d2,d3,d4⟩ := al.cells
         have fr := fun o => al.free o
         go_simp
         refine hK.out _ _ (((((hH.setC w0.heap.size 0 _ hnW).setC w0.heap.size 1 _ hnW).setC w0.heap.size 2 _ hnW).setC w0.heap.size 3 _ hnW).setC w0.heap.size 4 _ hnW) (fun hH => ?_)
         clear hK K fr d0 d1 d2 d3 d4
         try simp only [aT,aZ,aS]
         refine tk 18 rfl (by kernel_rfl) (fun _ _ _ h => h) rfl (fun w9 hS9 => by go_simp; (try rfl)) hH ?_
         try simp only [Act.put,aT,aZ,aS]
         refine wpAnyH_done (by kernel_rfl) ?_ _
         go_wp2_with fail
         go_meet
         case rel =>
          exact ⟨_,q2,ok2,rfl,rfl,al.all q2,hBq.set5 hRq hnl,k3,hH⟩
     case rest =>
     obtain ⟨nx,qx,okx,rfl,rfl,gx,hpx,kx,xx⟩ := hcut
     rename World => wv
     replace okA := okA.ext xx
     replace okB := okB.ext xx
     replace z1 := z1.trans xx
     replace va := (Ext.cell xx hb0).trans va
     replace vb := (Ext.cell xx hb0).trans vb
     replace q0 := (Ext.cell xx hfb0).trans q0
     replace q1 := (Ext.cell xx hfb0).trans q1
     replace q2 := (Ext.cell xx hfb0).trans q2
     replace q3 := (Ext.cell xx hfb0).trans q3
     replace q4 := (Ext.cell xx hfb0).trans q4
     replace s0 := (Ext.cell xx hgb0).trans s0
     replace s1 := (Ext.cell xx hgb0).trans s1
     replace s2 := (Ext.cell xx hgb0).trans s2
     replace s3 := (Ext.cell xx hgb0).trans s3
     replace s4 := (Ext.cell xx hgb0).trans s4
     replace hb0 := Nat.lt_of_lt_of_le hb0 xx.size
     replace hfb0 := Nat.lt_of_lt_of_le hfb0 xx.size
     replace hgb0 := Nat.lt_of_lt_of_le hgb0 xx.size
     clear PP
     have PP := fun W (x : Ext wv W) => rPut_any f g W (okA.ext x) (okB.ext x) smA smB (by omega)
     have okD : ∀ p ∈ f.ps ++ g.ps,∀ W,Ext wv W → p.Ok W := fun p hp W x => by
      rcases List.mem_append.1 hp with h | h
      ·exact (okA.2 p h).ext x
      ·exact (okB.2 p h).ext x
     go_upto_region 22 with fail
     go_cut [13,14] (fun s13 s14 wx => ∃ (nb : Nat) (q : FamD) (ok : Bool),s13 = .pointer (some ⟨nb,0,none⟩) ∧ s14 = .bool ok ∧ FamIn nb q.nm q.k q.un q.he (.slice q.pa q.ps.length q.pc) wx ∧ PtsA q.pa q.ps wx ∧ Hid ((ok = true → putY f.y g.y = some q.y) ∧ (ok = false → putY f.y g.y = none ∧ q.y = FamD.zero.y)) ∧ Ext wv wx)
     case first =>
      refine wp_region_held_drew (S := Ext wv) (by kernel_rfl) ((Ext.refl wv).drew) (fun hH => ?_)
      refine tk 0 rfl (by kernel_rfl) (fun _ _ _ h => h) rfl (fun w9 hS9 => by go_simp; (try rfl)) hH ?_
      try simp only [Act.put,aT,aZ,aS]
      refine tk 1 rfl (by kernel_rfl) (fun _ _ _ h => h) rfl (fun w9 hS9 => by go_simp; (try rfl)) hH ?_
      try simp only [Act.put,aT,aZ,aS]
      refine tk 2 rfl (by kernel_rfl) (fun _ _ _ h => h) rfl (fun w9 hS9 => by go_simp; (try rfl)) hH ?_
      try simp only [Act.put,aT,aZ,aS]
      refine tk 3 rfl (by kernel_rfl) (fun _ _ _ h => h) rfl (fun w9 hS9 => by replace va := (Ext.cell hS9 hb0).trans va; go_simp; (try rfl)) hH ?_
      try simp only [Act.put,aT,aZ,aS]
      refine tk 4 rfl (by kernel_rfl) (fun _ _ _ h => h) rfl (fun w9 hS9 => by go_simp; (try rfl)) hH ?_
      try simp only [Act.put,aT,aZ,aS]
      refine tk 5 rfl (by kernel_rfl) (fun _ _ _ h => h) rfl (fun w9 hS9 => by replace q0 := (Ext.cell hS9 hfb0).trans q0; replace q1 := (Ext.cell hS9 hfb0).trans q1; replace q2 := (Ext.cell hS9 hfb0).trans q2; replace q3 := (Ext.cell hS9 hfb0).trans q3; replace q4 := (Ext.cell hS9 hfb0).trans q4; go_simp; (try rfl)) hH ?_
      try simp only [Act.put,aT,aZ,aS]
      refine tk 6 rfl (by kernel_rfl) (fun _ _ _ h => h) rfl (fun w9 hS9 => by go_simp; (try rfl)) hH ?_
      try simp only [Act.put,aT,aZ,aS]
      refine tk 7 rfl (by kernel_rfl) (fun _ _ _ h => h) rfl (fun w9 hS9 => by go_simp; (try rfl)) hH ?_
      try simp only [Act.put,aT,aZ,aS]
      refine tk 8 rfl (by kernel_rfl) (fun _ _ _ h => h) rfl (fun w9 hS9 => by go_simp; (try rfl)) hH ?_
      try simp only [Act.put,aT,aZ,aS]
      refine tk 9 rfl (by kernel_rfl) (fun _ _ _ h => h) rfl (fun w9 hS9 => by replace vb := (Ext.cell hS9 hb0).trans vb; go_simp; (try rfl)) hH ?_
      try simp only [Act.put,aT,aZ,aS]
      refine tk 10 rfl (by kernel_rfl) (fun _ _ _ h => h) rfl (fun w9 hS9 => by go_simp; (try rfl)) hH ?_
      try simp only [Act.put,aT,aZ,aS]
      refine tk 11 rfl (by kernel_rfl) (fun _ _ _ h => h) rfl (fun w9 hS9 => by replace s0 := (Ext.cell hS9 hgb0).trans s0; replace s1 := (Ext.cell hS9 hgb0).trans s1; replace s2 := (Ext.cell hS9 hgb0).trans s2; replace s3 := (Ext.cell hS9 hgb0).trans s3; replace s4 := (Ext.cell hS9 hgb0).trans s4; go_simp; (try rfl)) hH ?_
      try simp only [Act.put,aT,aZ,aS]
      obtain ⟨w0,hw0⟩ : ∃ x,wv.drew = x := ⟨_,rfl⟩
      rw [hw0] at hH ⊢
      clear hw0
      refine wR (rs := [12,16]) (by kernel_rfl) (by simp) (aR rfl (fun K hK => ?km6064x12) (aR rfl (fun K hK => ?km6064x16) aN))
      case km6064x12 =>
       rw [if_pos (by rfl)]
       go_simp
       go_at_call 30
       (with_reducible refine (PP _ hH).mono ?_)
       rintro e wC ⟨⟨q2,ok2,rfl,hRq,hMq,k1,k2⟩,xc⟩
       have k3 := Lib.hid (And.intro k1 k2)
       clear k1 k2
       refine hK.out _ _ (hH.trans xc) (fun hH => ?_)
       clear hK K
       try simp only [aT,aZ,aS]
       refine tk 13 rfl (by kernel_rfl) (fun _ _ _ h => h) rfl (fun w9 hS9 => by go_simp; (try rfl)) hH ?_
       try simp only [Act.put,aT,aZ,aS]
       refine tk 14 rfl (by kernel_rfl) (fun _ _ _ h => h) rfl (fun w9 hS9 => by go_simp; (try rfl)) hH ?_
       try simp only [Act.put,aT,aZ,aS]
       refine tk 15 rfl (by kernel_rfl) (fun _ _ _ h => h) rfl (fun w9 hS9 => by go_simp; (try rfl)) hH ?_
       try simp only [Act.put,aT,aZ,aS]
       have hC := hH
       refine wR (rs := [16]) (by kernel_rfl) (by simp) (aR rfl (fun K hK => ?km6060x16) aN)
       case km6060x16 =>
        rw [if_pos (by rfl)]
        go_simp
        have hnW : wv.heap.size ≤ wC.heap.size := hH.size
        refine hK.out _ _ (hH.alloc _) (fun hH => ?_)
        clear hK K
        try simp only [aT,aZ,aS]
        obtain ⟨wN,hwN⟩ : ∃ x,wC.alloc (.cells #[.string ⟨#[]⟩,.int .i64 0,.string ⟨#[]⟩,.string ⟨#[]⟩,.slice none 0 0] 35) = x := ⟨_,rfl⟩
        have xn : Ext wC wN := by rw [← hwN]; exact (Ext.refl _).alloc _
        have al : FamIn wC.heap.size ⟨#[]⟩ 0 ⟨#[]⟩ ⟨#[]⟩ (.slice none 0 0) wN := by rw [← hwN]; exact heap_last _ _
        rw [hwN] at hH ⊢
        clear hwN
        refine wR (rs := [17]) (by kernel_rfl) (by simp) (aR rfl (fun K hK => ?km6059x17) aN)
        case km6059x17 =>
         rw [if_pos (by rfl)]
         obtain ⟨d0,d1,d2,d3,d4⟩ := al.cells
         have fr := fun o => al.free o
         go_simp
         refine hK.out _ _ (((((hH.setC wC.heap.size 0 _ hnW).setC wC.heap.size 1 _ hnW).setC wC.heap.size 2 _ hnW).setC wC.heap.size 3 _ hnW).setC wC.heap.size 4 _ hnW) (fun hH => ?_)
         clear hK K fr d0 d1 d2 d3 d4
         try simp only [aT,aZ,aS]
         refine tk 18 rfl (by kernel_rfl) (fun _ _ _ h => h) rfl (fun w9 hS9 => by go_simp; (try rfl)) hH ?_
         try simp only [Act.put,aT,aZ,aS]
         refine wpAnyH_done (by kernel_rfl) ?_ _
         go_wp2_with fail
         go_meet
         case rel =>
          exact ⟨_,q2,ok2,rfl,rfl,al.all q2,(hRq.pts (fun p hp => okD p (hMq p hp) _ hC)).ext (((((xn.setC wC.heap.size 0 _ (Nat.le_refl _)).setC wC.heap.size 1 _ (Nat.le_refl _)).setC wC.heap.size 2 _ (Nat.le_refl _)).setC wC.heap.size 3 _ (Nat.le_refl _)).setC wC.heap.size 4 _ (Nat.le_refl _)),k3,hH⟩
      case km6064x16 =>
       rw [if_pos (by rfl)]
       go_simp
       have hnW : wv.heap.size ≤ w0.heap.size := hH.size
       refine hK.out _ _ (hH.alloc _) (fun hH => ?_)
       clear hK K
       try simp only [aT,aZ,aS]
       obtain ⟨wN,hwN⟩ : ∃ x,w0.alloc (.cells #[.string ⟨#[]⟩,.int .i64 0,.string ⟨#[]⟩,.string ⟨#[]⟩,.slice none 0 0] 35) = x := ⟨_,rfl⟩
       have xn : Ext w0 wN := by rw [← hwN]; exact (Ext.refl _).alloc _
       have al : FamIn w0.heap.size ⟨#[]⟩ 0 ⟨#[]⟩ ⟨#[]⟩ (.slice none 0 0) wN := by rw [← hwN]; exact heap_last _ _
       rw [hwN] at hH ⊢
       clear hwN
       have hnl : w0.heap.size < wN.heap.size := al.lt
       refine wR (rs := [12]) (by kernel_rfl) (by simp) (aR rfl (fun K hK => ?km6063x12) aN)
       case km6063x12 =>
        rw [if_pos (by rfl)]
        go_simp
        go_at_call 30
        (with_reducible refine (PP _ hH).mono ?_)
        rintro e wC ⟨⟨q2,ok2,rfl,hRq,hMq,k1,k2⟩,xc⟩
        have k3 := Lib.hid (And.intro k1 k2)
        clear k1 k2
        refine hK.out _ _ (hH.trans xc) (fun hH => ?_)
        clear hK K
        try simp only [aT,aZ,aS]
        replace al := al.ext xc
        refine tk 13 rfl (by kernel_rfl) (fun _ _ _ h => h) rfl (fun w9 hS9 => by go_simp; (try rfl)) hH ?_
        try simp only [Act.put,aT,aZ,aS]
        refine tk 14 rfl (by kernel_rfl) (fun _ _ _ h => h) rfl (fun w9 hS9 => by go_simp; (try rfl)) hH ?_
        try simp only [Act.put,aT,aZ,aS]
        refine tk 15 rfl (by kernel_rfl) (fun _ _ _ h => h) rfl (fun w9 hS9 => by go_simp; (try rfl)) hH ?_
        try simp only [Act.put,aT,aZ,aS]
        have hHeld9 := hH
        refine wR (rs := [17]) (by kernel_rfl) (by simp) (aR rfl (fun K hK => ?km6062x17) aN)
        case km6062x17 =>
         rw [if_pos (by rfl)]
         obtain ⟨d0,d1,d2,d3,d4⟩ := al.cells
         have fr := fun o => al.free o
         go_simp
         refine hK.out _ _ (((((hH.setC w0.heap.size 0 _ hnW).setC w0.heap.size 1 _ hnW).setC w0.heap.size 2 _ hnW).setC w0.heap.size 3 _ hnW).setC w0.heap.size 4 _ hnW) (fun hH => ?_)
         clear hK K fr d0 d1 d2 d3 d4
         try simp only [aT,aZ,aS]
         refine tk 18 rfl (by kernel_rfl) (fun _ _ _ h => h) rfl (fun w9 hS9 => by go_simp; (try rfl)) hH ?_
         try simp only [Act.put,aT,aZ,aS]
         refine wpAnyH_done (by kernel_rfl) ?_ _
         go_wp2_with fail
         go_meet
         case rel =>
          exact ⟨_,q2,ok2,rfl,rfl,al.all q2,RowP.pts (((((hRq.setC w0.heap.size 0 _ hnl).setC w0.heap.size 1 _ hnl).setC w0.heap.size 2 _ hnl).setC w0.heap.size 3 _ hnl).setC w0.heap.size 4 _ hnl) (fun p hp => okD p (hMq p hp) _ (((((hHeld9.setC w0.heap.size 0 _ hnW).setC w0.heap.size 1 _ hnW).setC w0.heap.size 2 _ hnW).setC w0.heap.size 3 _ hnW).setC w0.heap.size 4 _ hnW)),k3,hH⟩
     case rest =>
     obtain ⟨ny,qy,oky,rfl,rfl,gy,hpy,ky,xx⟩ := hcut
     rename World => wz
     replace gx := gx.ext xx
     replace hpx := hpx.ext xx
     replace z1 := z1.trans xx
     obtain ⟨eo,eq⟩ := puts_same kx.out ky.out
     subst eo
     have sx := putY_Sm kx.out smA smB (by rw [FamD.y_len,FamD.y_len]; omega)
     have sy := putY_Sm ky.out smA smB (by rw [FamD.y_len,FamD.y_len]; omega)
     have SF := rSameF_any qx qy wz hpx hpy sx sy
     rw [eq,sameF_refl] at SF
     unfold FamD.v at SF
     have ob : (okx == okx) = true := by simp
     obtain ⟨e0,e1,e2,e3,e4⟩ := gx.cells
     obtain ⟨d0,d1,d2,d3,d4⟩ := gy.cells
     clear PP okD va vb q0 q1 q2 q3 q4 s0 s1 s2 s3 s4 kx ky eq sx sy gx gy hpx hpy okA okB smA smB
     go_wp2_with fail
     (with_reducible refine SF.mono ?_)
     rintro e w9 ⟨rfl,xm⟩
     go_wp2_with fail
     go_ret
     exact ⟨rfl,z1.trans xm⟩
end Go.Proofs.YtjjnmefihdjglaaGreat
