import Derived.Test.YtjjnmefihdjglaaGreatRsB
import Derived.Test.YtjjnmefihdjglaaGreatKT
set_option maxRecDepth 100000
set_option maxHeartbeats 64000000
set_option linter.all false
namespace Go.Proofs.YtjjnmefihdjglaaGreat
open Go.RowKit
theorem ris_fN (L : List FamD) : Ris cmpFN L ↔ Ris cmpNm (L.map FamD.y) := by
 rw [ris_map]
 exact Iff.rfl
theorem srts_part {l : List FamY} {k : Nat} {S : List FamY} {x y : FamY} (hk : k < l.length) (h : srts (l.take k) = some S) (hx : srt l[k] = some x) (hy : y ∈ S) (e : cmpNm y x = 0) : sortB l = none := by
 have h1 : srts l = (srts (l.take k)).bind fun a => (srts (l.drop k)).map fun b => a ++ b := by rw [← srts_append,List.take_append_drop]
 unfold sortB
 rw [h1,h,Option.bind_some,List.drop_eq_getElem_cons hk,srts,hx,Option.bind_some]
 cases srts (l.drop (k + 1)) with
 | none => rfl
 | some T => exact sortN_dup hy (List.mem_cons_self) e
def RowF (base : Nat) (a : Option Addr) (l : List FamD) (w : World) : Prop := 0 < l.length → ∃ b o,a = some ⟨b,o,none⟩ ∧ base ≤ b ∧ b < w.heap.size ∧ FamsAt b o l w
theorem RowF.fams {base : Nat} {a : Option Addr} {l : List FamD} {w : World} (h : RowF base a l w) (hk : ∀ f ∈ l,PtsA f.pa f.ps w) : FamsA a l w := by
 refine ⟨fun h0 => ?_,hk⟩
 obtain ⟨b,o,e,_,h1,h2⟩ := h h0
 exact ⟨b,o,e,h1,h2⟩
theorem RowF.keep {base : Nat} {a : Option Addr} {l : List FamD} {w w' : World} (h : RowF base a l w) (hz : w.heap.size ≤ w'.heap.size) (hk : ∀ b,base ≤ b → b < w.heap.size → w'.heap[b]? = w.heap[b]?) : RowF base a l w' := fun h0 => by
 obtain ⟨b,o,e,h1,h2,h3⟩ := h h0
 refine ⟨b,o,e,h1,Nat.lt_of_lt_of_le h2 hz,fun i hi => ?_⟩
 have c : ∀ o',w'.cell? ⟨b,o',none⟩ = w.cell? ⟨b,o',none⟩ := fun o' => World.cell?_of_block (hk b h1 h2)
 obtain ⟨c0,c1,c2,c3,c4⟩ := h3 i hi
 exact ⟨(c _).trans c0,(c _).trans c1,(c _).trans c2,(c _).trans c3,(c _).trans c4⟩
theorem RowF.ext {base : Nat} {a : Option Addr} {l : List FamD} {w w' : World} (h : RowF base a l w) (x : Ext w w') : RowF base a l w' := h.keep x.size (fun b _ hb => x.heap hb)
theorem RowF.setC {base : Nat} {a : Option Addr} {l : List FamD} {w : World} (h : RowF base a l w) (b o : Nat) (u : Value) (hb : b < base) : RowF base a l (w.setCell ⟨b,o,none⟩ u) :=
 h.keep (by rw [World.size_setCell]; exact Nat.le_refl _) (fun g hg _ => setC_off (by omega))
theorem OwnR.rowF {base : Nat} {a : Option Addr} {c : Nat} {L : List FamD} {W : World} (h : OwnR 5 35 FamD.cs base (.slice a L.length c) L.length (fun i => L[i]?.getD FamD.zero) W) : RowF base a L W := fun h0 => by
 obtain ⟨g,cap,e,hg,hr⟩ := h.row h0
 injection e with e _ _
 subst e
 refine ⟨g,0,rfl,hg,hr.lt,fun i hi => ?_⟩
 have e : L[i]?.getD FamD.zero = L[i] := by simp [hi]
 have C := fun j v hj hv => hr.cell i j v hi hj (by rw [e]; exact hv)
 rw [Nat.zero_add]
 exact ⟨C 0 _ (by decide) rfl,C 1 _ (by decide) rfl,C 2 _ (by decide) rfl,C 3 _ (by decide) rfl,C 4 _ (by decide) rfl⟩
def OutOf (base : Nat) (src L : List FamD) (w : World) : Prop := ∀ f ∈ L,RowP base f.pa f.ps w ∧ ∀ p ∈ f.ps,∃ f0 ∈ src,p ∈ f0.ps
theorem OutOf.pts {base : Nat} {a0 : Option Addr} {src L : List FamD} {v w : World} (h : OutOf base src L w) (hA : FamsA a0 src v) (x : Ext v w) : ∀ f ∈ L,PtsA f.pa f.ps w := fun f hf =>
 (h f hf).1.pts (fun p hp => by
   obtain ⟨f0,h3,h4⟩ := (h f hf).2 p hp
   exact ((hA.2 f0 h3).2 p h4).ext x)
theorem OutOf.ext {base : Nat} {src L : List FamD} {w w' : World} (h : OutOf base src L w) (x : Ext w w') : OutOf base src L w' := fun f hf => ⟨(h f hf).1.ext x,(h f hf).2⟩
theorem OutOf.setC {base : Nat} {src L : List FamD} {w : World} (h : OutOf base src L w) (b o : Nat) (u : Value) (hb : b < base) : OutOf base src L (w.setCell ⟨b,o,none⟩ u) := fun f hf => ⟨(h f hf).1.setC b o u hb,(h f hf).2⟩
def SFsTold (base : Nat) (src : List FamD) (R : Option (List FamY)) (e : Ending) (w' : World) : Prop :=
 ∃ (a : Option Addr) (c : Nat) (L : List FamD) (ok : Bool),e = .returned (.tuple #[.slice a L.length c,.bool ok]) ∧ RowF base a L w' ∧ OutOf base src L w' ∧ (ok = true → R = some (L.map FamD.y)) ∧ (ok = false → R = none ∧ L = [])
theorem rSortFams_any (a0 : Option Addr) (c0 : Nat) (l : List FamD) (w : World) (hl : l.length ≤ 1000) (hA : FamsA a0 l w) (hs : ∀ f ∈ l,f.y.Sm) :
  Calls Tryz.prog 49 #[.slice a0 l.length c0] w fun e w' => SFsTold w.heap.size l (sortB (l.map FamD.y)) e w' ∧ Ext w w' := by
 obtain ⟨S,hS⟩ : ∃ S,sortB (l.map FamD.y) = S := ⟨_,rfl⟩
 rw [hS]
 replace hS := Lib.hid hS
 obtain ⟨N,hN⟩ : ∃ N,w.heap.size = N := ⟨_,rfl⟩
 rw [hN]
 have hNq : N ≤ w.heap.size := by omega
 clear hN
 have hA0 : ∃ a,FamsA a l w := ⟨_,hA⟩
 go_enter Tryz.func49,Tryz.ntmps49
 go_wp2_with fail
 go_loopw [4,5] (fun s i wr => ∃ (k : Nat) (L : List FamD),i = .int .i64 k ∧ k ≤ l.length ∧ OwnR 5 35 FamD.cs N s L.length (fun i => L[i]?.getD FamD.zero) wr ∧ OutOf N l L wr ∧ Hid (∃ T,srts ((l.map FamD.y).take k) = some T ∧ (L.map FamD.y).Perm T ∧ Ris cmpFN L) ∧ Ext w wr) (fun _ i _ => l.length - (intOf i).toNat)
 case atStart => exact ⟨0,[],rfl,Nat.zero_le _,OwnR.nil _ _ _,(fun f hf => by cases hf),Lib.hid ⟨[],rfl,List.Perm.refl _,List.Pairwise.nil⟩,Ext.refl _⟩
 case round =>
  obtain ⟨k,L,rfl,hk,hO,hP,hQ,xr⟩ := hrel
  obtain ⟨T,hT,hpm,hris⟩ := hQ.out
  clear hQ
  by_cases hlt : k < l.length
  ·have hLk : L.length = k := by
    have h1 := hpm.length_eq
    have h2 := srts_len hT
    rw [List.length_map] at h1
    rw [List.length_take,List.length_map] at h2
    omega
   have hLn : Hid (L.length = k ∧ k < 1000) := Lib.hid ⟨hLk,by omega⟩
   clear hLk
   have hsrt : Hid (∃ h : k < (l.map FamD.y).length,(l.map FamD.y)[k] = l[k].y) := Lib.hid ⟨by simpa using hlt,by simp⟩
   obtain ⟨b,o,rfl,hb,hTT⟩ := hA.1 (by omega)
   have okf := (hA.2 _ (List.getElem_mem hlt)).ext xr
   have smf := hs _ (List.getElem_mem hlt)
   obtain ⟨u0,u1,u2,u3,u4⟩ := hTT k hlt
   have hfm := List.getElem_mem hlt
   generalize l[k] = f at *
   replace u0 := (Ext.cell xr hb).trans u0
   replace u1 := (Ext.cell xr hb).trans u1
   replace u2 := (Ext.cell xr hb).trans u2
   replace u3 := (Ext.cell xr hb).trans u3
   replace u4 := (Ext.cell xr hb).trans u4
   have i0 : (k : Int) < (l.length : Int) := by omega
   have CS := rSortFam_any f wr okf smf
   replace hpm := Lib.hid hpm
   replace hris := Lib.hid hris
   replace hT := Lib.hid hT
   clear hTT smf
   go_wp2_with fail
   (with_reducible refine CS.mono ?_)
   rintro e w1 ⟨⟨q,ok,rfl,hRq,hMq,k1,k2⟩,x1⟩
   have hPq : PtsA q.pa q.ps w1 := hRq.pts (fun p hp => (okf.2 p (hMq p hp)).ext x1)
   have hMq2 : ∀ p ∈ q.ps,∃ f0 ∈ l,p ∈ f0.ps := fun p hp => ⟨f,hfm,hMq p hp⟩
   replace hRq := hRq.mono (Nat.le_trans hNq xr.size)
   clear CS u0 u1 u2 u3 u4
   cases ok
   ·have V : Hid (S = none) := Lib.hid (by
     rw [← hS.out]
     obtain ⟨h1,h2⟩ := hsrt.out
     unfold sortB
     rw [srts_bad (List.getElem_mem h1) (by rw [h2]; exact (k2 rfl).1)]
     rfl)
    clear k1 k2 hO hP hpm hris hT hS hsrt hA hs
    go_wp2_with fail
    refine bodyPost_ret (v := .tuple #[.slice none 0 0,.bool false]) (by simp [results,Tryz.results49,go_sem]) rfl ⟨⟨none,0,[],false,rfl,(fun h => absurd h (by simp)),(fun f hf => by cases hf),(fun h => by cases h),fun _ => ⟨V.out,rfl⟩⟩,(xr.trans x1).alloc _⟩
   have e1 := Lib.hid (k1 rfl)
   clear k1 k2
   have xa := (Ext.refl w1).alloc (.cells #[.string q.nm,.int .i64 q.k,.string q.un,.string q.he,.slice q.pa q.ps.length q.pc] 35)
   have gX : FamIn w1.heap.size q.nm q.k q.un q.he (.slice q.pa q.ps.length q.pc) (w1.alloc (.cells #[.string q.nm,.int .i64 q.k,.string q.un,.string q.he,.slice q.pa q.ps.length q.pc] 35)) := heap_last _ _
   replace hPq := hPq.ext xa
   replace hRq := hRq.ext xa
   have xs := x1.trans xa
   clear x1 xa
   obtain ⟨wv,hwv⟩ : ∃ y,w1.alloc (.cells #[.string q.nm,.int .i64 q.k,.string q.un,.string q.he,.slice q.pa q.ps.length q.pc] 35) = y := ⟨_,rfl⟩
   rw [hwv] at gX hPq hRq xs
   replace hO := hO.ext xs
   replace hP := hP.ext xs
   obtain ⟨a,cap,hv,hFL⟩ := hO.fams rfl (hA0.elim fun a h => hP.pts h (xr.trans xs))
   subst hv
   replace hNq := Nat.le_trans hNq (Nat.le_trans xr.size xs.size)
   go_upto_block 2 with fail
   try rw [hwv]
   clear hwv
   go_cut [8] (fun s6 wx => ∃ j : Nat,s6 = .int .i64 j ∧ j ≤ L.length ∧ Hid ((∀ i (hi : i < L.length),j ≤ i → 0 < cmpFN L[i] q) ∧ ∀ i (hi : i < L.length),i + 1 = j → cmpFN L[i] q ≤ 0) ∧ Ext wv wx)
   case first =>
    go_wp2_with fail
    go_loopw [8] (fun s6 ws => ∃ j : Nat,s6 = .int .i64 j ∧ j ≤ L.length ∧ Hid (∀ i (hi : i < L.length),j ≤ i → 0 < cmpFN L[i] q) ∧ Ext wv ws) (fun s6 _ => (intOf s6).toNat)
    case atStart => exact ⟨L.length,rfl,Nat.le_refl _,Lib.hid (fun i hi h => by omega),Ext.refl _⟩
    case round =>
     rename World => ws
     obtain ⟨j,rfl,hj,hG,xq⟩ := hrel
     cases j with
     | zero =>
       go_wp2_with fail
       refine wp_region_held_drew (S := Ext ws) (by kernel_rfl) ((Ext.refl ws).drew) (fun hH => ?_)
       refine tk 0 rfl (by kernel_rfl) (fun _ _ _ h => h) rfl (fun w9 hS9 => by go_simp; (try rfl)) hH ?_
       try simp only [Act.put,aT,aZ,aS]
       refine tk 1 rfl (by kernel_rfl) (fun _ _ _ h => h) rfl (fun w9 hS9 => by go_simp; (try rfl)) hH ?_
       try simp only [Act.put,aT,aZ,aS]
       refine tk 2 rfl (by kernel_rfl) (fun _ _ _ h => h) rfl (fun w9 hS9 => by go_simp; (try rfl)) hH ?_
       try simp only [Act.put,aT,aZ,aS]
       refine tk0 3 rfl (by kernel_rfl) (fun _ _ _ h => h) rfl hH ?_
       try simp only [Act.put,aT,aZ,aS]
       refine tk0 4 rfl (by kernel_rfl) (fun _ _ _ h => h) rfl hH ?_
       try simp only [Act.put,aT,aZ,aS]
       refine tk0 5 rfl (by kernel_rfl) (fun _ _ _ h => h) rfl hH ?_
       try simp only [Act.put,aT,aZ,aS]
       refine tk0 6 rfl (by kernel_rfl) (fun _ _ _ h => h) rfl hH ?_
       try simp only [Act.put,aT,aZ,aS]
       refine tk0 7 rfl (by kernel_rfl) (fun _ _ _ h => h) rfl hH ?_
       try simp only [Act.put,aT,aZ,aS]
       refine tk0 8 rfl (by kernel_rfl) (fun _ _ _ h => h) rfl hH ?_
       try simp only [Act.put,aT,aZ,aS]
       refine tk0 9 rfl (by kernel_rfl) (fun _ _ _ h => h) rfl hH ?_
       try simp only [Act.put,aT,aZ,aS]
       refine tk0 10 rfl (by kernel_rfl) (fun _ _ _ h => h) rfl hH ?_
       try simp only [Act.put,aT,aZ,aS]
       refine tk0 11 rfl (by kernel_rfl) (fun _ _ _ h => h) rfl hH ?_
       try simp only [Act.put,aT,aZ,aS]
       refine tk0 12 rfl (by kernel_rfl) (fun _ _ _ h => h) rfl hH ?_
       try simp only [Act.put,aT,aZ,aS]
       refine tk0 13 rfl (by kernel_rfl) (fun _ _ _ h => h) rfl hH ?_
       try simp only [Act.put,aT,aZ,aS]
       refine tk 14 rfl (by kernel_rfl) (fun _ _ _ h => h) rfl (fun w9 hS9 => by go_simp; (try rfl)) hH ?_
       try simp only [Act.put,aT,aZ,aS]
       refine wpAnyH_done (by kernel_rfl) ?_ _
       go_wp2_with fail
       go_meet
       case rel => exact ⟨0,rfl,Nat.zero_le _,Lib.hid ⟨hG.out,fun i _ h => by omega⟩,xq.trans hH⟩
     | succ j =>
       obtain ⟨lb,lo,ea,hLb0,hTl⟩ := hFL.1 (by omega)
       subst ea
       have hjl : j < L.length := by omega
       obtain ⟨p0,_,_,_,_⟩ := hTl j hjl
       obtain ⟨p,hjp⟩ : ∃ p,L[j]'hjl = p := ⟨_,rfl⟩
       rw [hjp] at p0
       have hjp : Hid (∀ h : j < L.length,L[j]'h = p) := Lib.hid (fun _ => hjp)
       replace p0 := (Ext.cell xq hLb0).trans p0
       have hLb := Nat.lt_of_lt_of_le hLb0 xq.size
       obtain ⟨bl,nl⟩ : ∃ bl,Op.bytesLess p.nm.toList q.nm.toList = bl := ⟨_,rfl⟩
       have hbl : Hid (bl = true ↔ cmpFN p q < 0) := Lib.hid (by rw [← nl,less_is,decide_eq_true_eq]; exact Iff.rfl)
       obtain ⟨be,ne⟩ : ∃ be,(p.nm.toList == q.nm.toList) = be := ⟨_,rfl⟩
       have hbe : Hid (be = true ↔ cmpFN p q = 0) := Lib.hid (by rw [← ne,same_is,decide_eq_true_eq]; exact Iff.rfl)
       have i1 : IntKind.i64.wrap (j : Int) = (j : Int) := IntWalk.i64_in _ (by have := hLn.out; omega)
       have i2 : (j : Int) < (L.length : Int) := by omega
       have i3 : (0 : Int) < (j : Int) + 1 := by omega
       have i4 : (0 : Int) ≤ (j : Int) + 1 := by omega
       clear hTl
       replace gX := gX.ext xq
       go_wp2_with fail
       refine wp_region_held_drew (S := Ext ws) (by kernel_rfl) ((Ext.refl ws).drew) (fun hH => ?_)
       refine tk 0 rfl (by kernel_rfl) (fun _ _ _ h => h) rfl (fun w9 hS9 => by go_simp; (try rfl)) hH ?_
       try simp only [Act.put,aT,aZ,aS]
       refine tk 1 rfl (by kernel_rfl) (fun _ _ _ h => h) rfl (fun w9 hS9 => by go_simp; (try rfl)) hH ?_
       try simp only [Act.put,aT,aZ,aS]
       refine tk 2 rfl (by kernel_rfl) (fun _ _ _ h => h) rfl (fun w9 hS9 => by go_simp; (try rfl)) hH ?_
       try simp only [Act.put,aT,aZ,aS]
       refine tk 3 rfl (by kernel_rfl) (fun _ _ _ h => h) rfl (fun w9 hS9 => by go_simp; (try rfl)) hH ?_
       try simp only [Act.put,aT,aZ,aS]
       refine tk 4 rfl (by kernel_rfl) (fun _ _ _ h => h) rfl (fun w9 hS9 => by go_simp; (try rfl)) hH ?_
       try simp only [Act.put,aT,aZ,aS]
       refine tk 5 rfl (by kernel_rfl) (fun _ _ _ h => h) rfl (fun w9 hS9 => by go_simp; (try rfl)) hH ?_
       try simp only [Act.put,aT,aZ,aS]
       refine tk 6 rfl (by kernel_rfl) (fun _ _ _ h => h) rfl (fun w9 hS9 => by go_simp; (try rfl)) hH ?_
       try simp only [Act.put,aT,aZ,aS]
       refine tk 7 rfl (by kernel_rfl) (fun _ _ _ h => h) rfl (fun w9 hS9 => by go_simp; (try rfl)) hH ?_
       try simp only [Act.put,aT,aZ,aS]
       refine tk 8 rfl (by kernel_rfl) (fun _ _ _ h => h) rfl (fun w9 hS9 => by go_simp; (try rfl)) hH ?_
       try simp only [Act.put,aT,aZ,aS]
       refine tk 9 rfl (by kernel_rfl) (fun _ _ _ h => h) rfl (fun w9 hS9 => by replace p0 := (Ext.cell hS9 hLb).trans p0; go_simp; (try rfl)) hH ?_
       try simp only [Act.put,aT,aZ,aS]
       refine tk 10 rfl (by kernel_rfl) (fun _ _ _ h => h) rfl (fun w9 hS9 => by obtain ⟨c0,c1,c2,c3,c4⟩ := (gX.ext hS9).cells; go_simp; (try rfl)) hH ?_
       try simp only [Act.put,aT,aZ,aS]
       refine tk 11 rfl (by kernel_rfl) (fun _ _ _ h => h) rfl (fun w9 hS9 => by obtain ⟨c0,c1,c2,c3,c4⟩ := (gX.ext hS9).cells; go_simp; (try rfl)) hH ?_
       try simp only [Act.put,aT,aZ,aS]
       refine tk 12 rfl (by kernel_rfl) (fun _ _ _ h => h) rfl (fun w9 hS9 => by obtain ⟨c0,c1,c2,c3,c4⟩ := (gX.ext hS9).cells; go_simp; (try rfl)) hH ?_
       try simp only [Act.put,aT,aZ,aS]
       refine tk 13 rfl (by kernel_rfl) (fun _ _ _ h => h) rfl (fun w9 hS9 => by go_simp; (try rfl)) hH ?_
       try simp only [Act.put,aT,aZ,aS]
       refine tk 14 rfl (by kernel_rfl) (fun _ _ _ h => h) rfl (fun w9 hS9 => by go_simp; (try rfl)) hH ?_
       try simp only [Act.put,aT,aZ,aS]
       refine wpAnyH_done (by kernel_rfl) ?_ _
       cases bl
       ·cases be
        ·have hG2 : Hid (∀ i (hi : i < L.length),j ≤ i → 0 < cmpFN L[i] q) := Lib.hid (fun i hi h => by
          by_cases z : i = j
          ·subst z
           rw [hjp.out hi]
           have h1 : ¬ cmpFN p q < 0 := fun h => by cases hbl.out.2 h
           have h2 : ¬ cmpFN p q = 0 := fun h => by cases hbe.out.2 h
           omega
          ·exact hG.out i hi (by omega))
         clear hG hbl hbe hjp
         go_wp2_with fail
         go_roundw
         case rel => exact ⟨j,rfl,by omega,hG2,xq.trans hH⟩
         case measure => simp only [intOf]; omega
        ·have hz : Hid (cmpFN p q ≤ 0) := Lib.hid (by have := hbe.out.1 rfl; omega)
         clear hbl hbe
         go_wp2_with fail
         go_meet
         case rel =>
          refine ⟨j + 1,rfl,hj,Lib.hid ⟨hG.out,fun i hi h => ?_⟩,xq.trans hH⟩
          obtain rfl : i = j := by omega
          rw [hjp.out hi]
          exact hz.out
       ·cases be
        ·have hz : Hid (cmpFN p q ≤ 0) := Lib.hid (by have := hbl.out.1 rfl; omega)
         clear hbl hbe
         go_wp2_with fail
         go_meet
         case rel =>
          refine ⟨j + 1,rfl,hj,Lib.hid ⟨hG.out,fun i hi h => ?_⟩,xq.trans hH⟩
          obtain rfl : i = j := by omega
          rw [hjp.out hi]
          exact hz.out
        ·have hz : Hid (cmpFN p q ≤ 0) := Lib.hid (by have := hbl.out.1 rfl; omega)
         clear hbl hbe
         go_wp2_with fail
         go_meet
         case rel =>
          refine ⟨j + 1,rfl,hj,Lib.hid ⟨hG.out,fun i hi h => ?_⟩,xq.trans hH⟩
          obtain rfl : i = j := by omega
          rw [hjp.out hi]
          exact hz.out
   case rest =>
    obtain ⟨j,rfl,hj,hG,xq⟩ := hcut
    rename World => wo
    replace gX := gX.ext xq
    go_upto_region 11 with fail
    go_cut [58] (fun s58 wx => ∃ b : Bool,s58 = .bool b ∧ Hid ((b = true → ∃ i,∃ h : i < L.length,cmpFN L[i] q = 0) ∧ (b = false → ∀ i (h : i < L.length),i + 1 = j → cmpFN L[i] q < 0)) ∧ Ext wo wx)
    case first =>
     cases j with
     | zero =>
       refine wp_region_held_drew (S := Ext wo) (by kernel_rfl) ((Ext.refl wo).drew) (fun hH => ?_)
       refine tk 0 rfl (by kernel_rfl) (fun _ _ _ h => h) rfl (fun w9 hS9 => by go_simp; (try rfl)) hH ?_
       try simp only [Act.put,aT,aZ,aS]
       refine tk 1 rfl (by kernel_rfl) (fun _ _ _ h => h) rfl (fun w9 hS9 => by go_simp; (try rfl)) hH ?_
       try simp only [Act.put,aT,aZ,aS]
       refine tk 2 rfl (by kernel_rfl) (fun _ _ _ h => h) rfl (fun w9 hS9 => by go_simp; (try rfl)) hH ?_
       try simp only [Act.put,aT,aZ,aS]
       refine tk0 3 rfl (by kernel_rfl) (fun _ _ _ h => h) rfl hH ?_
       try simp only [Act.put,aT,aZ,aS]
       refine tk0 4 rfl (by kernel_rfl) (fun _ _ _ h => h) rfl hH ?_
       try simp only [Act.put,aT,aZ,aS]
       refine tk0 5 rfl (by kernel_rfl) (fun _ _ _ h => h) rfl hH ?_
       try simp only [Act.put,aT,aZ,aS]
       refine tk0 6 rfl (by kernel_rfl) (fun _ _ _ h => h) rfl hH ?_
       try simp only [Act.put,aT,aZ,aS]
       refine tk0 7 rfl (by kernel_rfl) (fun _ _ _ h => h) rfl hH ?_
       try simp only [Act.put,aT,aZ,aS]
       refine tk0 8 rfl (by kernel_rfl) (fun _ _ _ h => h) rfl hH ?_
       try simp only [Act.put,aT,aZ,aS]
       refine tk0 9 rfl (by kernel_rfl) (fun _ _ _ h => h) rfl hH ?_
       try simp only [Act.put,aT,aZ,aS]
       refine tk0 10 rfl (by kernel_rfl) (fun _ _ _ h => h) rfl hH ?_
       try simp only [Act.put,aT,aZ,aS]
       refine tk0 11 rfl (by kernel_rfl) (fun _ _ _ h => h) rfl hH ?_
       try simp only [Act.put,aT,aZ,aS]
       refine tk0 12 rfl (by kernel_rfl) (fun _ _ _ h => h) rfl hH ?_
       try simp only [Act.put,aT,aZ,aS]
       refine tk0 13 rfl (by kernel_rfl) (fun _ _ _ h => h) rfl hH ?_
       try simp only [Act.put,aT,aZ,aS]
       refine tk 14 rfl (by kernel_rfl) (fun _ _ _ h => h) rfl (fun w9 hS9 => by go_simp; (try rfl)) hH ?_
       try simp only [Act.put,aT,aZ,aS]
       refine wpAnyH_done (by kernel_rfl) ?_ _
       go_wp2_with fail
       go_meet
       case rel => exact ⟨false,rfl,Lib.hid ⟨(fun h => by cases h),fun _ i _ h => by omega⟩,hH⟩
     | succ j =>
       obtain ⟨lb,lo,ea,hLb0,hTl⟩ := hFL.1 (by omega)
       subst ea
       have hjl : j < L.length := by omega
       obtain ⟨p0,_,_,_,_⟩ := hTl j hjl
       obtain ⟨p,hjp⟩ : ∃ p,L[j]'hjl = p := ⟨_,rfl⟩
       rw [hjp] at p0
       have hjp : Hid (∀ h : j < L.length,L[j]'h = p) := Lib.hid (fun _ => hjp)
       replace p0 := (Ext.cell xq hLb0).trans p0
       have hLb := Nat.lt_of_lt_of_le hLb0 xq.size
       obtain ⟨bl,nl⟩ : ∃ bl,Op.bytesLess p.nm.toList q.nm.toList = bl := ⟨_,rfl⟩
       have hbl : Hid (bl = true ↔ cmpFN p q < 0) := Lib.hid (by rw [← nl,less_is,decide_eq_true_eq]; exact Iff.rfl)
       obtain ⟨be,ne⟩ : ∃ be,(p.nm.toList == q.nm.toList) = be := ⟨_,rfl⟩
       have hbe : Hid (be = true ↔ cmpFN p q = 0) := Lib.hid (by rw [← ne,same_is,decide_eq_true_eq]; exact Iff.rfl)
       have i1 : IntKind.i64.wrap (j : Int) = (j : Int) := IntWalk.i64_in _ (by have := hLn.out; omega)
       have i2 : (j : Int) < (L.length : Int) := by omega
       have i3 : (0 : Int) < (j : Int) + 1 := by omega
       have i4 : (0 : Int) ≤ (j : Int) + 1 := by omega
       clear hTl
       go_upto_region 11 with fail
       refine wp_region_held_drew (S := Ext wo) (by kernel_rfl) ((Ext.refl wo).drew) (fun hH => ?_)
       refine tk 0 rfl (by kernel_rfl) (fun _ _ _ h => h) rfl (fun w9 hS9 => by go_simp; (try rfl)) hH ?_
       try simp only [Act.put,aT,aZ,aS]
       refine tk 1 rfl (by kernel_rfl) (fun _ _ _ h => h) rfl (fun w9 hS9 => by go_simp; (try rfl)) hH ?_
       try simp only [Act.put,aT,aZ,aS]
       refine tk 2 rfl (by kernel_rfl) (fun _ _ _ h => h) rfl (fun w9 hS9 => by go_simp; (try rfl)) hH ?_
       try simp only [Act.put,aT,aZ,aS]
       refine tk 3 rfl (by kernel_rfl) (fun _ _ _ h => h) rfl (fun w9 hS9 => by go_simp; (try rfl)) hH ?_
       try simp only [Act.put,aT,aZ,aS]
       refine tk 4 rfl (by kernel_rfl) (fun _ _ _ h => h) rfl (fun w9 hS9 => by go_simp; (try rfl)) hH ?_
       try simp only [Act.put,aT,aZ,aS]
       refine tk 5 rfl (by kernel_rfl) (fun _ _ _ h => h) rfl (fun w9 hS9 => by go_simp; (try rfl)) hH ?_
       try simp only [Act.put,aT,aZ,aS]
       refine tk 6 rfl (by kernel_rfl) (fun _ _ _ h => h) rfl (fun w9 hS9 => by go_simp; (try rfl)) hH ?_
       try simp only [Act.put,aT,aZ,aS]
       refine tk 7 rfl (by kernel_rfl) (fun _ _ _ h => h) rfl (fun w9 hS9 => by go_simp; (try rfl)) hH ?_
       try simp only [Act.put,aT,aZ,aS]
       refine tk 8 rfl (by kernel_rfl) (fun _ _ _ h => h) rfl (fun w9 hS9 => by go_simp; (try rfl)) hH ?_
       try simp only [Act.put,aT,aZ,aS]
       refine tk 9 rfl (by kernel_rfl) (fun _ _ _ h => h) rfl (fun w9 hS9 => by replace p0 := (Ext.cell hS9 hLb).trans p0; go_simp; (try rfl)) hH ?_
       try simp only [Act.put,aT,aZ,aS]
       refine tk 10 rfl (by kernel_rfl) (fun _ _ _ h => h) rfl (fun w9 hS9 => by obtain ⟨c0,c1,c2,c3,c4⟩ := (gX.ext hS9).cells; go_simp; (try rfl)) hH ?_
       try simp only [Act.put,aT,aZ,aS]
       refine tk 11 rfl (by kernel_rfl) (fun _ _ _ h => h) rfl (fun w9 hS9 => by obtain ⟨c0,c1,c2,c3,c4⟩ := (gX.ext hS9).cells; go_simp; (try rfl)) hH ?_
       try simp only [Act.put,aT,aZ,aS]
       refine tk 12 rfl (by kernel_rfl) (fun _ _ _ h => h) rfl (fun w9 hS9 => by obtain ⟨c0,c1,c2,c3,c4⟩ := (gX.ext hS9).cells; go_simp; (try rfl)) hH ?_
       try simp only [Act.put,aT,aZ,aS]
       refine tk 13 rfl (by kernel_rfl) (fun _ _ _ h => h) rfl (fun w9 hS9 => by go_simp; (try rfl)) hH ?_
       try simp only [Act.put,aT,aZ,aS]
       refine tk 14 rfl (by kernel_rfl) (fun _ _ _ h => h) rfl (fun w9 hS9 => by go_simp; (try rfl)) hH ?_
       try simp only [Act.put,aT,aZ,aS]
       refine wpAnyH_done (by kernel_rfl) ?_ _
       go_wp2_with fail
       go_meet
       case rel =>
        refine ⟨_,rfl,Lib.hid ⟨fun h => ⟨j,hjl,?_⟩,fun h i hi e => ?_⟩,hH⟩
        ·rw [hjp.out hjl]; exact hbe.out.1 h
        ·obtain rfl : i = j := by omega
         have h1 := hG.out.2 i hi rfl
         rw [hjp.out hi] at h1 ⊢
         have h2 : ¬ cmpFN p q = 0 := fun z => by rw [hbe.out.2 z] at h; cases h
         omega
    case rest =>
     obtain ⟨b',rfl,hE,xt⟩ := hcut
     rename World => wr
     replace xs := xs.trans (xq.trans xt)
     replace gX := gX.ext xt
     replace xq := xq.trans xt
     obtain ⟨c0,c1,c2,c3,c4⟩ := gX.cells
     cases b'
     rotate_left
     ·have V : Hid (S = none) := Lib.hid (by
       rw [← hS.out]
       obtain ⟨h1,h2⟩ := hsrt.out
       obtain ⟨i,hi,e⟩ := hE.out.1 rfl
       exact srts_part h1 hT.out (by rw [h2]; exact e1.out) (hpm.out.subset (List.mem_map_of_mem (List.getElem_mem hi))) (show cmpNm (L[i]'hi).y q.y = 0 from e))
      clear hE hG hO hP hpm hris hT hS hsrt hA hs hFL
      go_wp2_with fail
      refine bodyPost_ret (v := .tuple #[.slice none 0 0,.bool false]) (by simp [results,Tryz.results49,go_sem]) rfl ⟨⟨none,0,[],false,rfl,(fun h => absurd h (by simp)),(fun f hf => by cases hf),(fun h => by cases h),fun _ => ⟨V.out,rfl⟩⟩,xr.trans xs⟩
     ·have hE2 := hE.out.2 rfl
      have hR3 := put_ris cmpFN_cmp hj hris.out hG.out.1 hE2
      have HH : Hid (∃ T,srts ((l.map FamD.y).take (k + 1)) = some T ∧ ((L.take j ++ [q] ++ L.drop j).map FamD.y).Perm T ∧ Ris cmpFN (L.take j ++ [q] ++ L.drop j)) := Lib.hid (by
       obtain ⟨h1,h2⟩ := hsrt.out
       refine ⟨T ++ [q.y],?_,?_,hR3⟩
       ·rw [List.take_add_one,List.getElem?_eq_getElem h1,Option.toList_some,srts_append,hT.out,Option.bind_some,h2,srts,e1.out,Option.bind_some]
        rfl
       ·have h3 : (L.take j ++ [q] ++ L.drop j).Perm (L ++ [q]) := by
         rw [List.append_assoc]
         show (L.take j ++ q :: L.drop j).Perm _
         refine List.perm_middle.trans ?_
         rw [List.take_append_drop]
         exact (List.perm_append_singleton _ _).symm
        have h4 := h3.map FamD.y
        rw [List.map_append (l₁ := L)] at h4
        exact h4.trans (hpm.out.append_right _))
      have hO2 := hO.ext xq
      have hFL2 := hFL.ext xq
      have HP : ∀ W',Ext wr W' → OutOf N l (L.take j ++ [q] ++ L.drop j) W' := fun W' e f hf => by
       rcases List.mem_append.1 hf with hf | hf
       ·rcases List.mem_append.1 hf with hf | hf
        ·exact (hP.ext (xq.trans e)) f (List.mem_of_mem_take hf)
        ·rw [List.mem_singleton] at hf; subst hf; exact ⟨hRq.ext (xq.trans e),hMq2⟩
       ·exact (hP.ext (xq.trans e)) f (List.mem_of_mem_drop hf)
      replace hPq := hPq.ext xq
      have hNw : N ≤ wr.heap.size := Nat.le_trans hNq xq.size
      clear hR3 hE2 hE hG hO hP hFL hpm hris hT hS hsrt hA hs e1
      go_upto_region 13 with fail
      rcases hO2 with ⟨hv,h0⟩ | ⟨g,cap',hv,q1,q2,cc,q3,q4,q5⟩
      ·injection hv with e1 e2 e3
       subst e1 e3
       have hL0 : L = [] := List.length_eq_zero_iff.1 h0
       have hj0 : j = 0 := by omega
       have hs1 : ∀ W',Ext wr W' → SrcR 5 FamD.cs FamD.zero (.slice none 0 0) (L.take j) W' := fun _ _ => .inl ⟨by rw [hL0]; simp,none,0,rfl⟩
       have hs2 : ∀ W',Ext wr W' → SrcR 5 FamD.cs FamD.zero (.slice none 0 0) (L.drop j) W' := fun _ _ => .inl ⟨by rw [hL0]; simp,none,0,rfl⟩
       clear hL0 e2 hFL2
       refine wp_region_held_drew (S := Ext wr) (by kernel_rfl) ((Ext.refl wr).drew) (fun hH => ?_)
       refine tk 0 rfl (by kernel_rfl) (fun _ _ _ h => h) rfl (fun w9 hS9 => by go_simp; (try rfl)) hH ?_
       try simp only [Act.put,aT,aZ,aS]
       refine tk 1 rfl (by kernel_rfl) (fun _ _ _ h => h) rfl (fun w9 hS9 => by go_simp; (try rfl)) hH ?_
       try simp only [Act.put,aT,aZ,aS]
       refine tk 2 rfl (by kernel_rfl) (fun _ _ _ h => h) rfl (fun w9 hS9 => by go_simp; (try rfl)) hH ?_
       try simp only [Act.put,aT,aZ,aS]
       refine tk 4 rfl (by kernel_rfl) (fun _ _ _ h => h) rfl (fun w9 hS9 => by obtain ⟨c0,c1,c2,c3,c4⟩ := (gX.ext hS9).cells; go_simp; (try rfl)) hH ?_
       try simp only [Act.put,aT,aZ,aS]
       refine tk 7 rfl (by kernel_rfl) (fun _ _ _ h => h) rfl (fun w9 hS9 => by go_simp; (try rfl)) hH ?_
       try simp only [Act.put,aT,aZ,aS]
       refine tk 8 rfl (by kernel_rfl) (fun _ _ _ h => h) rfl (fun w9 hS9 => by go_simp; (try rfl)) hH ?_
       try simp only [Act.put,aT,aZ,aS]
       refine tk 9 rfl (by kernel_rfl) (fun _ _ _ h => h) rfl (fun w9 hS9 => by go_simp; (try rfl)) hH ?_
       try simp only [Act.put,aT,aZ,aS]
       obtain ⟨w0,hw0⟩ : ∃ x,wr.drew = x := ⟨_,rfl⟩
       rw [hw0] at hH ⊢
       clear hw0
       refine wR (rs := [3,5]) (by kernel_rfl) (by simp) (aR rfl (fun K hK => ?km1668A1) (aR rfl (fun K hK => ?km1668BS) aN))
       case km1668A1 =>
        rw [if_pos (by rfl)]
        have ra : OwnR 5 35 FamD.cs wr.heap.size (.slice none 0 0) ([] : List FamD).length (fun i => ([] : List FamD)[i]?.getD FamD.zero) w0 := OwnR.nil _ _ _
        obtain ⟨v1,wA,ea,rb,gb⟩ := app_any tyFam (fun _ => rfl) famC_one (by decide) w0 25 FamD.zero wr.heap.size _ [] ra hH.size _ (L.take j) (hs1 _ hH) (by have := hLn.out; simp only [List.length_append,List.length_take,List.length_drop,List.length_singleton,List.length_nil]; omega) (by have := hLn.out; simp only [List.length_append,List.length_take,List.length_drop,List.length_singleton,List.length_nil]; omega)
        have hlo : ∀ g,Value.ownBlock (.slice none 0 0) = some g → wr.heap.size ≤ g := fun g hg => (ra.lt g hg).1
        refine Lib.wp_append_run _ _ _ _ _ rfl _ _ rfl rfl v1 wA ea (hK.out _ _ (grown_ext' hH gb (Nat.le_refl _) hlo) (fun hH => ?_))
        clear hK K ea ra hlo
        try simp only [aT,aZ,aS]
        have ra := rb
        clear rb
        have xg : Ext w0 wA := grown_ext' (Ext.refl _) gb (Nat.le_refl _) (fun g hg => by cases hg)
        clear gb
        clear xg
        refine wR (rs := [5]) (by kernel_rfl) (by simp) (aR rfl (fun K hK => ?km1669BS) aN)
        case km1669BS =>
         rw [if_pos (by rfl)]
         go_simp
         refine hK.out _ _ (hH.alloc _) (fun hH => ?_)
         clear hK K
         try simp only [aT,aZ,aS]
         obtain ⟨wS,hwS⟩ : ∃ y,wA.alloc (.cells #[.string q.nm,.int .i64 q.k,.string q.un,.string q.he,.slice q.pa q.ps.length q.pc] 35) = y := ⟨_,rfl⟩
         have xt : Ext wA wS := by rw [← hwS]; exact (Ext.refl _).alloc _
         rw [hwS] at hH ⊢
         have rs : FamsA (some ⟨wA.heap.size,0,none⟩) [q] wS := by rw [← hwS]; exact FamsA.oneF (heap_last _ _) (by rw [hwS]; exact hPq.ext hH)
         clear hwS
         replace ra := ra.ext xt
         clear xt
         refine wR (rs := [6]) (by kernel_rfl) (by simp) (aR rfl (fun K hK => ?km1670A2) aN)
         case km1670A2 =>
          rw [if_pos (by rfl)]
          obtain ⟨v2,wB,ea,rb,gb⟩ := app_any tyFam (fun _ => rfl) famC_one (by decide) wS 25 FamD.zero wr.heap.size _ ([] ++ L.take j) ra hH.size _ [q] (.inr ⟨_,_,rfl,FamsA.src rs⟩) (by have := hLn.out; simp only [List.length_append,List.length_take,List.length_drop,List.length_singleton,List.length_nil]; omega) (by have := hLn.out; simp only [List.length_append,List.length_take,List.length_drop,List.length_singleton,List.length_nil]; omega)
          have hlo : ∀ g,Value.ownBlock v1 = some g → wr.heap.size ≤ g := fun g hg => (ra.lt g hg).1
          refine Lib.wp_append_run _ _ _ _ _ rfl _ _ rfl rfl v2 wB ea (hK.out _ _ (grown_ext' hH gb (Nat.le_refl _) hlo) (fun hH => ?_))
          clear hK K ea ra hlo
          try simp only [aT,aZ,aS]
          have ra := rb
          clear rb
          clear gb
          refine wR (rs := [10]) (by kernel_rfl) (by simp) (aR rfl (fun K hK => ?km1671A3) aN)
          case km1671A3 =>
           rw [if_pos (by rfl)]
           obtain ⟨v3,wC,ea,rb,gb⟩ := app_any tyFam (fun _ => rfl) famC_one (by decide) wB 25 FamD.zero wr.heap.size _ ([] ++ L.take j ++ [q]) ra hH.size _ (L.drop j) (hs2 _ hH) (by have := hLn.out; simp only [List.length_append,List.length_take,List.length_drop,List.length_singleton,List.length_nil]; omega) (by have := hLn.out; simp only [List.length_append,List.length_take,List.length_drop,List.length_singleton,List.length_nil]; omega)
           have hlo : ∀ g,Value.ownBlock v2 = some g → wr.heap.size ≤ g := fun g hg => (ra.lt g hg).1
           refine Lib.wp_append_run _ _ _ _ _ rfl _ _ rfl rfl v3 wC ea (hK.out _ _ (grown_ext' hH gb (Nat.le_refl _) hlo) (fun hH => ?_))
           clear hK K ea ra hlo
           try simp only [aT,aZ,aS]
           have ra := rb
           clear rb
           clear gb
           refine tk 11 rfl (by kernel_rfl) (fun _ _ _ h => h) rfl (fun w9 hS9 => by go_simp; (try rfl)) hH ?_
           try simp only [Act.put,aT,aZ,aS]
           refine wpAnyH_done (by kernel_rfl) ?_ _
           go_wp2_with fail
           go_roundw
           case rel => exact ⟨k + 1,_,rfl,hlt,ra.mono hNw,HP _ hH,HH,xr.trans (xs.trans hH)⟩
           case measure => simp only [intOf]; omega
       case km1668BS =>
        rw [if_pos (by rfl)]
        go_simp
        refine hK.out _ _ (hH.alloc _) (fun hH => ?_)
        clear hK K
        try simp only [aT,aZ,aS]
        obtain ⟨wS,hwS⟩ : ∃ y,w0.alloc (.cells #[.string q.nm,.int .i64 q.k,.string q.un,.string q.he,.slice q.pa q.ps.length q.pc] 35) = y := ⟨_,rfl⟩
        have xt : Ext w0 wS := by rw [← hwS]; exact (Ext.refl _).alloc _
        rw [hwS] at hH ⊢
        have rs : FamsA (some ⟨w0.heap.size,0,none⟩) [q] wS := by rw [← hwS]; exact FamsA.oneF (heap_last _ _) (by rw [hwS]; exact hPq.ext hH)
        clear hwS
        clear xt
        refine wR (rs := [3]) (by kernel_rfl) (by simp) (aR rfl (fun K hK => ?km1673A1) aN)
        case km1673A1 =>
         rw [if_pos (by rfl)]
         have ra : OwnR 5 35 FamD.cs wr.heap.size (.slice none 0 0) ([] : List FamD).length (fun i => ([] : List FamD)[i]?.getD FamD.zero) wS := OwnR.nil _ _ _
         obtain ⟨v1,wA,ea,rb,gb⟩ := app_any tyFam (fun _ => rfl) famC_one (by decide) wS 25 FamD.zero wr.heap.size _ [] ra hH.size _ (L.take j) (hs1 _ hH) (by have := hLn.out; simp only [List.length_append,List.length_take,List.length_drop,List.length_singleton,List.length_nil]; omega) (by have := hLn.out; simp only [List.length_append,List.length_take,List.length_drop,List.length_singleton,List.length_nil]; omega)
         have hlo : ∀ g,Value.ownBlock (.slice none 0 0) = some g → wr.heap.size ≤ g := fun g hg => (ra.lt g hg).1
         refine Lib.wp_append_run _ _ _ _ _ rfl _ _ rfl rfl v1 wA ea (hK.out _ _ (grown_ext' hH gb (Nat.le_refl _) hlo) (fun hH => ?_))
         clear hK K ea ra hlo
         try simp only [aT,aZ,aS]
         have ra := rb
         clear rb
         have xg : Ext wS wA := grown_ext' (Ext.refl _) gb (Nat.le_refl _) (fun g hg => by cases hg)
         clear gb
         replace rs := rs.ext xg
         clear xg
         refine wR (rs := [6]) (by kernel_rfl) (by simp) (aR rfl (fun K hK => ?km1674A2) aN)
         case km1674A2 =>
          rw [if_pos (by rfl)]
          obtain ⟨v2,wB,ea,rb,gb⟩ := app_any tyFam (fun _ => rfl) famC_one (by decide) wA 25 FamD.zero wr.heap.size _ ([] ++ L.take j) ra hH.size _ [q] (.inr ⟨_,_,rfl,FamsA.src rs⟩) (by have := hLn.out; simp only [List.length_append,List.length_take,List.length_drop,List.length_singleton,List.length_nil]; omega) (by have := hLn.out; simp only [List.length_append,List.length_take,List.length_drop,List.length_singleton,List.length_nil]; omega)
          have hlo : ∀ g,Value.ownBlock v1 = some g → wr.heap.size ≤ g := fun g hg => (ra.lt g hg).1
          refine Lib.wp_append_run _ _ _ _ _ rfl _ _ rfl rfl v2 wB ea (hK.out _ _ (grown_ext' hH gb (Nat.le_refl _) hlo) (fun hH => ?_))
          clear hK K ea ra hlo
          try simp only [aT,aZ,aS]
          have ra := rb
          clear rb
          clear gb
          refine wR (rs := [10]) (by kernel_rfl) (by simp) (aR rfl (fun K hK => ?km1675A3) aN)
          case km1675A3 =>
           rw [if_pos (by rfl)]
           obtain ⟨v3,wC,ea,rb,gb⟩ := app_any tyFam (fun _ => rfl) famC_one (by decide) wB 25 FamD.zero wr.heap.size _ ([] ++ L.take j ++ [q]) ra hH.size _ (L.drop j) (hs2 _ hH) (by have := hLn.out; simp only [List.length_append,List.length_take,List.length_drop,List.length_singleton,List.length_nil]; omega) (by have := hLn.out; simp only [List.length_append,List.length_take,List.length_drop,List.length_singleton,List.length_nil]; omega)
           have hlo : ∀ g,Value.ownBlock v2 = some g → wr.heap.size ≤ g := fun g hg => (ra.lt g hg).1
           refine Lib.wp_append_run _ _ _ _ _ rfl _ _ rfl rfl v3 wC ea (hK.out _ _ (grown_ext' hH gb (Nat.le_refl _) hlo) (fun hH => ?_))
           clear hK K ea ra hlo
           try simp only [aT,aZ,aS]
           have ra := rb
           clear rb
           clear gb
           refine tk 11 rfl (by kernel_rfl) (fun _ _ _ h => h) rfl (fun w9 hS9 => by go_simp; (try rfl)) hH ?_
           try simp only [Act.put,aT,aZ,aS]
           refine wpAnyH_done (by kernel_rfl) ?_ _
           go_wp2_with fail
           go_roundw
           case rel => exact ⟨k + 1,_,rfl,hlt,ra.mono hNw,HP _ hH,HH,xr.trans (xs.trans hH)⟩
           case measure => simp only [intOf]; omega
      ·injection hv with e1 e2 e3
       subst e1 e3
       have hs1 : ∀ W',Ext wr W' → SrcR 5 FamD.cs FamD.zero (.slice (some ⟨g,0,none⟩) j cap) (L.take j) W' := fun W' e => .inr ⟨_,_,by rw [List.length_take,Nat.min_eq_left hj],FamsA.src ((hFL2.ext e).upto j)⟩
       have je : (j : Int) ≤ (L.length : Int) := by omega
       have jc : (j : Int) ≤ (cap : Int) := by omega
       by_cases hjc : cap = j
       ·have hs2 : ∀ W',Ext wr W' → SrcR 5 FamD.cs FamD.zero (.slice (some ⟨g,0,none⟩) 0 0) (L.drop j) W' := fun W' e => .inl ⟨List.drop_eq_nil_of_le (by omega),_,_,rfl⟩
        have hLj : L.length = j := by omega
        have hjc2 : j = cap := hjc.symm
        subst hjc2
        clear q1 q3 q4 q5 hFL2 e2
        refine wp_region_held_drew (S := Ext wr) (by kernel_rfl) ((Ext.refl wr).drew) (fun hH => ?_)
        refine tk 0 rfl (by kernel_rfl) (fun _ _ _ h => h) rfl (fun w9 hS9 => by go_simp; (try rfl)) hH ?_
        try simp only [Act.put,aT,aZ,aS]
        refine tk 1 rfl (by kernel_rfl) (fun _ _ _ h => h) rfl (fun w9 hS9 => by go_simp; (try rfl)) hH ?_
        try simp only [Act.put,aT,aZ,aS]
        refine tk 2 rfl (by kernel_rfl) (fun _ _ _ h => h) rfl (fun w9 hS9 => by go_simp; (try rfl)) hH ?_
        try simp only [Act.put,aT,aZ,aS]
        refine tk 4 rfl (by kernel_rfl) (fun _ _ _ h => h) rfl (fun w9 hS9 => by obtain ⟨c0,c1,c2,c3,c4⟩ := (gX.ext hS9).cells; go_simp; (try rfl)) hH ?_
        try simp only [Act.put,aT,aZ,aS]
        refine tk 7 rfl (by kernel_rfl) (fun _ _ _ h => h) rfl (fun w9 hS9 => by go_simp; (try rfl)) hH ?_
        try simp only [Act.put,aT,aZ,aS]
        refine tk 8 rfl (by kernel_rfl) (fun _ _ _ h => h) rfl (fun w9 hS9 => by go_simp; (try rfl)) hH ?_
        try simp only [Act.put,aT,aZ,aS]
        refine tk 9 rfl (by kernel_rfl) (fun _ _ _ h => h) rfl (fun w9 hS9 => by go_simp; (try rfl)) hH ?_
        try simp only [Act.put,aT,aZ,aS]
        obtain ⟨w0,hw0⟩ : ∃ x,wr.drew = x := ⟨_,rfl⟩
        rw [hw0] at hH ⊢
        clear hw0
        refine wR (rs := [3,5]) (by kernel_rfl) (by simp) (aR rfl (fun K hK => ?km1684A1) (aR rfl (fun K hK => ?km1684BS) aN))
        case km1684A1 =>
         rw [if_pos (by rfl)]
         have ra : OwnR 5 35 FamD.cs wr.heap.size (.slice none 0 0) ([] : List FamD).length (fun i => ([] : List FamD)[i]?.getD FamD.zero) w0 := OwnR.nil _ _ _
         obtain ⟨v1,wA,ea,rb,gb⟩ := app_any tyFam (fun _ => rfl) famC_one (by decide) w0 25 FamD.zero wr.heap.size _ [] ra hH.size _ (L.take j) (hs1 _ hH) (by have := hLn.out; simp only [List.length_append,List.length_take,List.length_drop,List.length_singleton,List.length_nil]; omega) (by have := hLn.out; simp only [List.length_append,List.length_take,List.length_drop,List.length_singleton,List.length_nil]; omega)
         have hlo : ∀ g,Value.ownBlock (.slice none 0 0) = some g → wr.heap.size ≤ g := fun g hg => (ra.lt g hg).1
         refine Lib.wp_append_run _ _ _ _ _ rfl _ _ rfl rfl v1 wA ea (hK.out _ _ (grown_ext' hH gb (Nat.le_refl _) hlo) (fun hH => ?_))
         clear hK K ea ra hlo
         try simp only [aT,aZ,aS]
         have ra := rb
         clear rb
         have xg : Ext w0 wA := grown_ext' (Ext.refl _) gb (Nat.le_refl _) (fun g hg => by cases hg)
         clear gb
         clear xg
         refine wR (rs := [5]) (by kernel_rfl) (by simp) (aR rfl (fun K hK => ?km1685BS) aN)
         case km1685BS =>
          rw [if_pos (by rfl)]
          go_simp
          refine hK.out _ _ (hH.alloc _) (fun hH => ?_)
          clear hK K
          try simp only [aT,aZ,aS]
          obtain ⟨wS,hwS⟩ : ∃ y,wA.alloc (.cells #[.string q.nm,.int .i64 q.k,.string q.un,.string q.he,.slice q.pa q.ps.length q.pc] 35) = y := ⟨_,rfl⟩
          have xt : Ext wA wS := by rw [← hwS]; exact (Ext.refl _).alloc _
          rw [hwS] at hH ⊢
          have rs : FamsA (some ⟨wA.heap.size,0,none⟩) [q] wS := by rw [← hwS]; exact FamsA.oneF (heap_last _ _) (by rw [hwS]; exact hPq.ext hH)
          clear hwS
          replace ra := ra.ext xt
          clear xt
          refine wR (rs := [6]) (by kernel_rfl) (by simp) (aR rfl (fun K hK => ?km1686A2) aN)
          case km1686A2 =>
           rw [if_pos (by rfl)]
           obtain ⟨v2,wB,ea,rb,gb⟩ := app_any tyFam (fun _ => rfl) famC_one (by decide) wS 25 FamD.zero wr.heap.size _ ([] ++ L.take j) ra hH.size _ [q] (.inr ⟨_,_,rfl,FamsA.src rs⟩) (by have := hLn.out; simp only [List.length_append,List.length_take,List.length_drop,List.length_singleton,List.length_nil]; omega) (by have := hLn.out; simp only [List.length_append,List.length_take,List.length_drop,List.length_singleton,List.length_nil]; omega)
           have hlo : ∀ g,Value.ownBlock v1 = some g → wr.heap.size ≤ g := fun g hg => (ra.lt g hg).1
           refine Lib.wp_append_run _ _ _ _ _ rfl _ _ rfl rfl v2 wB ea (hK.out _ _ (grown_ext' hH gb (Nat.le_refl _) hlo) (fun hH => ?_))
           clear hK K ea ra hlo
           try simp only [aT,aZ,aS]
           have ra := rb
           clear rb
           clear gb
           refine wR (rs := [10]) (by kernel_rfl) (by simp) (aR rfl (fun K hK => ?km1687A3) aN)
           case km1687A3 =>
            rw [if_pos (by rfl)]
            obtain ⟨v3,wC,ea,rb,gb⟩ := app_any tyFam (fun _ => rfl) famC_one (by decide) wB 25 FamD.zero wr.heap.size _ ([] ++ L.take j ++ [q]) ra hH.size _ (L.drop j) (hs2 _ hH) (by have := hLn.out; simp only [List.length_append,List.length_take,List.length_drop,List.length_singleton,List.length_nil]; omega) (by have := hLn.out; simp only [List.length_append,List.length_take,List.length_drop,List.length_singleton,List.length_nil]; omega)
            have hlo : ∀ g,Value.ownBlock v2 = some g → wr.heap.size ≤ g := fun g hg => (ra.lt g hg).1
            refine Lib.wp_append_run _ _ _ _ _ rfl _ _ rfl rfl v3 wC ea (hK.out _ _ (grown_ext' hH gb (Nat.le_refl _) hlo) (fun hH => ?_))
            clear hK K ea ra hlo
            try simp only [aT,aZ,aS]
            have ra := rb
            clear rb
            clear gb
            refine tk 11 rfl (by kernel_rfl) (fun _ _ _ h => h) rfl (fun w9 hS9 => by go_simp; (try rfl)) hH ?_
            try simp only [Act.put,aT,aZ,aS]
            refine wpAnyH_done (by kernel_rfl) ?_ _
            go_wp2_with fail
            go_roundw
            case rel => exact ⟨k + 1,_,rfl,hlt,ra.mono hNw,HP _ hH,HH,xr.trans (xs.trans hH)⟩
            case measure => simp only [intOf]; omega
        case km1684BS =>
         rw [if_pos (by rfl)]
         go_simp
         refine hK.out _ _ (hH.alloc _) (fun hH => ?_)
         clear hK K
         try simp only [aT,aZ,aS]
         obtain ⟨wS,hwS⟩ : ∃ y,w0.alloc (.cells #[.string q.nm,.int .i64 q.k,.string q.un,.string q.he,.slice q.pa q.ps.length q.pc] 35) = y := ⟨_,rfl⟩
         have xt : Ext w0 wS := by rw [← hwS]; exact (Ext.refl _).alloc _
         rw [hwS] at hH ⊢
         have rs : FamsA (some ⟨w0.heap.size,0,none⟩) [q] wS := by rw [← hwS]; exact FamsA.oneF (heap_last _ _) (by rw [hwS]; exact hPq.ext hH)
         clear hwS
         clear xt
         refine wR (rs := [3]) (by kernel_rfl) (by simp) (aR rfl (fun K hK => ?km1689A1) aN)
         case km1689A1 =>
          rw [if_pos (by rfl)]
          have ra : OwnR 5 35 FamD.cs wr.heap.size (.slice none 0 0) ([] : List FamD).length (fun i => ([] : List FamD)[i]?.getD FamD.zero) wS := OwnR.nil _ _ _
          obtain ⟨v1,wA,ea,rb,gb⟩ := app_any tyFam (fun _ => rfl) famC_one (by decide) wS 25 FamD.zero wr.heap.size _ [] ra hH.size _ (L.take j) (hs1 _ hH) (by have := hLn.out; simp only [List.length_append,List.length_take,List.length_drop,List.length_singleton,List.length_nil]; omega) (by have := hLn.out; simp only [List.length_append,List.length_take,List.length_drop,List.length_singleton,List.length_nil]; omega)
          have hlo : ∀ g,Value.ownBlock (.slice none 0 0) = some g → wr.heap.size ≤ g := fun g hg => (ra.lt g hg).1
          refine Lib.wp_append_run _ _ _ _ _ rfl _ _ rfl rfl v1 wA ea (hK.out _ _ (grown_ext' hH gb (Nat.le_refl _) hlo) (fun hH => ?_))
          clear hK K ea ra hlo
          try simp only [aT,aZ,aS]
          have ra := rb
          clear rb
          have xg : Ext wS wA := grown_ext' (Ext.refl _) gb (Nat.le_refl _) (fun g hg => by cases hg)
          clear gb
          replace rs := rs.ext xg
          clear xg
          refine wR (rs := [6]) (by kernel_rfl) (by simp) (aR rfl (fun K hK => ?km1690A2) aN)
          case km1690A2 =>
           rw [if_pos (by rfl)]
           obtain ⟨v2,wB,ea,rb,gb⟩ := app_any tyFam (fun _ => rfl) famC_one (by decide) wA 25 FamD.zero wr.heap.size _ ([] ++ L.take j) ra hH.size _ [q] (.inr ⟨_,_,rfl,FamsA.src rs⟩) (by have := hLn.out; simp only [List.length_append,List.length_take,List.length_drop,List.length_singleton,List.length_nil]; omega) (by have := hLn.out; simp only [List.length_append,List.length_take,List.length_drop,List.length_singleton,List.length_nil]; omega)
           have hlo : ∀ g,Value.ownBlock v1 = some g → wr.heap.size ≤ g := fun g hg => (ra.lt g hg).1
           refine Lib.wp_append_run _ _ _ _ _ rfl _ _ rfl rfl v2 wB ea (hK.out _ _ (grown_ext' hH gb (Nat.le_refl _) hlo) (fun hH => ?_))
           clear hK K ea ra hlo
           try simp only [aT,aZ,aS]
           have ra := rb
           clear rb
           clear gb
           refine wR (rs := [10]) (by kernel_rfl) (by simp) (aR rfl (fun K hK => ?km1691A3) aN)
           case km1691A3 =>
            rw [if_pos (by rfl)]
            obtain ⟨v3,wC,ea,rb,gb⟩ := app_any tyFam (fun _ => rfl) famC_one (by decide) wB 25 FamD.zero wr.heap.size _ ([] ++ L.take j ++ [q]) ra hH.size _ (L.drop j) (hs2 _ hH) (by have := hLn.out; simp only [List.length_append,List.length_take,List.length_drop,List.length_singleton,List.length_nil]; omega) (by have := hLn.out; simp only [List.length_append,List.length_take,List.length_drop,List.length_singleton,List.length_nil]; omega)
            have hlo : ∀ g,Value.ownBlock v2 = some g → wr.heap.size ≤ g := fun g hg => (ra.lt g hg).1
            refine Lib.wp_append_run _ _ _ _ _ rfl _ _ rfl rfl v3 wC ea (hK.out _ _ (grown_ext' hH gb (Nat.le_refl _) hlo) (fun hH => ?_))
            clear hK K ea ra hlo
            try simp only [aT,aZ,aS]
            have ra := rb
            clear rb
            clear gb
            refine tk 11 rfl (by kernel_rfl) (fun _ _ _ h => h) rfl (fun w9 hS9 => by go_simp; (try rfl)) hH ?_
            try simp only [Act.put,aT,aZ,aS]
            refine wpAnyH_done (by kernel_rfl) ?_ _
            go_wp2_with fail
            go_roundw
            case rel => exact ⟨k + 1,_,rfl,hlt,ra.mono hNw,HP _ hH,HH,xr.trans (xs.trans hH)⟩
            case measure => simp only [intOf]; omega
       ·have hs2 : ∀ W',Ext wr W' → SrcR 5 FamD.cs FamD.zero (.slice (some ⟨g,j * 5,none⟩) (L.length - j) (cap - j)) (L.drop j) W' := fun W' e => by
         have h1 := (hFL2.ext e).from j
         rw [Nat.zero_add] at h1
         exact .inr ⟨_,_,by rw [List.length_drop],FamsA.src h1⟩
        have jc2 : (j : Int) < (cap : Int) := by omega
        clear q1 q3 q4 q5 hFL2 e2
        refine wp_region_held_drew (S := Ext wr) (by kernel_rfl) ((Ext.refl wr).drew) (fun hH => ?_)
        refine tk 0 rfl (by kernel_rfl) (fun _ _ _ h => h) rfl (fun w9 hS9 => by go_simp; (try rfl)) hH ?_
        try simp only [Act.put,aT,aZ,aS]
        refine tk 1 rfl (by kernel_rfl) (fun _ _ _ h => h) rfl (fun w9 hS9 => by go_simp; (try rfl)) hH ?_
        try simp only [Act.put,aT,aZ,aS]
        refine tk 2 rfl (by kernel_rfl) (fun _ _ _ h => h) rfl (fun w9 hS9 => by go_simp; (try rfl)) hH ?_
        try simp only [Act.put,aT,aZ,aS]
        refine tk 4 rfl (by kernel_rfl) (fun _ _ _ h => h) rfl (fun w9 hS9 => by obtain ⟨c0,c1,c2,c3,c4⟩ := (gX.ext hS9).cells; go_simp; (try rfl)) hH ?_
        try simp only [Act.put,aT,aZ,aS]
        refine tk 7 rfl (by kernel_rfl) (fun _ _ _ h => h) rfl (fun w9 hS9 => by go_simp; (try rfl)) hH ?_
        try simp only [Act.put,aT,aZ,aS]
        refine tk 8 rfl (by kernel_rfl) (fun _ _ _ h => h) rfl (fun w9 hS9 => by go_simp; (try rfl)) hH ?_
        try simp only [Act.put,aT,aZ,aS]
        refine tk 9 rfl (by kernel_rfl) (fun _ _ _ h => h) rfl (fun w9 hS9 => by go_simp; (try rfl)) hH ?_
        try simp only [Act.put,aT,aZ,aS]
        obtain ⟨w0,hw0⟩ : ∃ x,wr.drew = x := ⟨_,rfl⟩
        rw [hw0] at hH ⊢
        clear hw0
        refine wR (rs := [3,5]) (by kernel_rfl) (by simp) (aR rfl (fun K hK => ?km1700A1) (aR rfl (fun K hK => ?km1700BS) aN))
        case km1700A1 =>
         rw [if_pos (by rfl)]
         have ra : OwnR 5 35 FamD.cs wr.heap.size (.slice none 0 0) ([] : List FamD).length (fun i => ([] : List FamD)[i]?.getD FamD.zero) w0 := OwnR.nil _ _ _
         obtain ⟨v1,wA,ea,rb,gb⟩ := app_any tyFam (fun _ => rfl) famC_one (by decide) w0 25 FamD.zero wr.heap.size _ [] ra hH.size _ (L.take j) (hs1 _ hH) (by have := hLn.out; simp only [List.length_append,List.length_take,List.length_drop,List.length_singleton,List.length_nil]; omega) (by have := hLn.out; simp only [List.length_append,List.length_take,List.length_drop,List.length_singleton,List.length_nil]; omega)
         have hlo : ∀ g,Value.ownBlock (.slice none 0 0) = some g → wr.heap.size ≤ g := fun g hg => (ra.lt g hg).1
         refine Lib.wp_append_run _ _ _ _ _ rfl _ _ rfl rfl v1 wA ea (hK.out _ _ (grown_ext' hH gb (Nat.le_refl _) hlo) (fun hH => ?_))
         clear hK K ea ra hlo
         try simp only [aT,aZ,aS]
         have ra := rb
         clear rb
         have xg : Ext w0 wA := grown_ext' (Ext.refl _) gb (Nat.le_refl _) (fun g hg => by cases hg)
         clear gb
         clear xg
         refine wR (rs := [5]) (by kernel_rfl) (by simp) (aR rfl (fun K hK => ?km1701BS) aN)
         case km1701BS =>
          rw [if_pos (by rfl)]
          go_simp
          refine hK.out _ _ (hH.alloc _) (fun hH => ?_)
          clear hK K
          try simp only [aT,aZ,aS]
          obtain ⟨wS,hwS⟩ : ∃ y,wA.alloc (.cells #[.string q.nm,.int .i64 q.k,.string q.un,.string q.he,.slice q.pa q.ps.length q.pc] 35) = y := ⟨_,rfl⟩
          have xt : Ext wA wS := by rw [← hwS]; exact (Ext.refl _).alloc _
          rw [hwS] at hH ⊢
          have rs : FamsA (some ⟨wA.heap.size,0,none⟩) [q] wS := by rw [← hwS]; exact FamsA.oneF (heap_last _ _) (by rw [hwS]; exact hPq.ext hH)
          clear hwS
          replace ra := ra.ext xt
          clear xt
          refine wR (rs := [6]) (by kernel_rfl) (by simp) (aR rfl (fun K hK => ?km1702A2) aN)
          case km1702A2 =>
           rw [if_pos (by rfl)]
           obtain ⟨v2,wB,ea,rb,gb⟩ := app_any tyFam (fun _ => rfl) famC_one (by decide) wS 25 FamD.zero wr.heap.size _ ([] ++ L.take j) ra hH.size _ [q] (.inr ⟨_,_,rfl,FamsA.src rs⟩) (by have := hLn.out; simp only [List.length_append,List.length_take,List.length_drop,List.length_singleton,List.length_nil]; omega) (by have := hLn.out; simp only [List.length_append,List.length_take,List.length_drop,List.length_singleton,List.length_nil]; omega)
           have hlo : ∀ g,Value.ownBlock v1 = some g → wr.heap.size ≤ g := fun g hg => (ra.lt g hg).1
           refine Lib.wp_append_run _ _ _ _ _ rfl _ _ rfl rfl v2 wB ea (hK.out _ _ (grown_ext' hH gb (Nat.le_refl _) hlo) (fun hH => ?_))
           clear hK K ea ra hlo
           try simp only [aT,aZ,aS]
           have ra := rb
           clear rb
           clear gb
           refine wR (rs := [10]) (by kernel_rfl) (by simp) (aR rfl (fun K hK => ?km1703A3) aN)
           case km1703A3 =>
            rw [if_pos (by rfl)]
            obtain ⟨v3,wC,ea,rb,gb⟩ := app_any tyFam (fun _ => rfl) famC_one (by decide) wB 25 FamD.zero wr.heap.size _ ([] ++ L.take j ++ [q]) ra hH.size _ (L.drop j) (hs2 _ hH) (by have := hLn.out; simp only [List.length_append,List.length_take,List.length_drop,List.length_singleton,List.length_nil]; omega) (by have := hLn.out; simp only [List.length_append,List.length_take,List.length_drop,List.length_singleton,List.length_nil]; omega)
            have hlo : ∀ g,Value.ownBlock v2 = some g → wr.heap.size ≤ g := fun g hg => (ra.lt g hg).1
            refine Lib.wp_append_run _ _ _ _ _ rfl _ _ rfl rfl v3 wC ea (hK.out _ _ (grown_ext' hH gb (Nat.le_refl _) hlo) (fun hH => ?_))
            clear hK K ea ra hlo
            try simp only [aT,aZ,aS]
            have ra := rb
            clear rb
            clear gb
            refine tk 11 rfl (by kernel_rfl) (fun _ _ _ h => h) rfl (fun w9 hS9 => by go_simp; (try rfl)) hH ?_
            try simp only [Act.put,aT,aZ,aS]
            refine wpAnyH_done (by kernel_rfl) ?_ _
            go_wp2_with fail
            go_roundw
            case rel => exact ⟨k + 1,_,rfl,hlt,ra.mono hNw,HP _ hH,HH,xr.trans (xs.trans hH)⟩
            case measure => simp only [intOf]; omega
        case km1700BS =>
         rw [if_pos (by rfl)]
         go_simp
         refine hK.out _ _ (hH.alloc _) (fun hH => ?_)
         clear hK K
         try simp only [aT,aZ,aS]
         obtain ⟨wS,hwS⟩ : ∃ y,w0.alloc (.cells #[.string q.nm,.int .i64 q.k,.string q.un,.string q.he,.slice q.pa q.ps.length q.pc] 35) = y := ⟨_,rfl⟩
         have xt : Ext w0 wS := by rw [← hwS]; exact (Ext.refl _).alloc _
         rw [hwS] at hH ⊢
         have rs : FamsA (some ⟨w0.heap.size,0,none⟩) [q] wS := by rw [← hwS]; exact FamsA.oneF (heap_last _ _) (by rw [hwS]; exact hPq.ext hH)
         clear hwS
         clear xt
         refine wR (rs := [3]) (by kernel_rfl) (by simp) (aR rfl (fun K hK => ?km1705A1) aN)
         case km1705A1 =>
          rw [if_pos (by rfl)]
          have ra : OwnR 5 35 FamD.cs wr.heap.size (.slice none 0 0) ([] : List FamD).length (fun i => ([] : List FamD)[i]?.getD FamD.zero) wS := OwnR.nil _ _ _
          obtain ⟨v1,wA,ea,rb,gb⟩ := app_any tyFam (fun _ => rfl) famC_one (by decide) wS 25 FamD.zero wr.heap.size _ [] ra hH.size _ (L.take j) (hs1 _ hH) (by have := hLn.out; simp only [List.length_append,List.length_take,List.length_drop,List.length_singleton,List.length_nil]; omega) (by have := hLn.out; simp only [List.length_append,List.length_take,List.length_drop,List.length_singleton,List.length_nil]; omega)
          have hlo : ∀ g,Value.ownBlock (.slice none 0 0) = some g → wr.heap.size ≤ g := fun g hg => (ra.lt g hg).1
          refine Lib.wp_append_run _ _ _ _ _ rfl _ _ rfl rfl v1 wA ea (hK.out _ _ (grown_ext' hH gb (Nat.le_refl _) hlo) (fun hH => ?_))
          clear hK K ea ra hlo
          try simp only [aT,aZ,aS]
          have ra := rb
          clear rb
          have xg : Ext wS wA := grown_ext' (Ext.refl _) gb (Nat.le_refl _) (fun g hg => by cases hg)
          clear gb
          replace rs := rs.ext xg
          clear xg
          refine wR (rs := [6]) (by kernel_rfl) (by simp) (aR rfl (fun K hK => ?km1706A2) aN)
          case km1706A2 =>
           rw [if_pos (by rfl)]
           obtain ⟨v2,wB,ea,rb,gb⟩ := app_any tyFam (fun _ => rfl) famC_one (by decide) wA 25 FamD.zero wr.heap.size _ ([] ++ L.take j) ra hH.size _ [q] (.inr ⟨_,_,rfl,FamsA.src rs⟩) (by have := hLn.out; simp only [List.length_append,List.length_take,List.length_drop,List.length_singleton,List.length_nil]; omega) (by have := hLn.out; simp only [List.length_append,List.length_take,List.length_drop,List.length_singleton,List.length_nil]; omega)
           have hlo : ∀ g,Value.ownBlock v1 = some g → wr.heap.size ≤ g := fun g hg => (ra.lt g hg).1
           refine Lib.wp_append_run _ _ _ _ _ rfl _ _ rfl rfl v2 wB ea (hK.out _ _ (grown_ext' hH gb (Nat.le_refl _) hlo) (fun hH => ?_))
           clear hK K ea ra hlo
           try simp only [aT,aZ,aS]
           have ra := rb
           clear rb
           clear gb
           refine wR (rs := [10]) (by kernel_rfl) (by simp) (aR rfl (fun K hK => ?km1707A3) aN)
           case km1707A3 =>
            rw [if_pos (by rfl)]
            obtain ⟨v3,wC,ea,rb,gb⟩ := app_any tyFam (fun _ => rfl) famC_one (by decide) wB 25 FamD.zero wr.heap.size _ ([] ++ L.take j ++ [q]) ra hH.size _ (L.drop j) (hs2 _ hH) (by have := hLn.out; simp only [List.length_append,List.length_take,List.length_drop,List.length_singleton,List.length_nil]; omega) (by have := hLn.out; simp only [List.length_append,List.length_take,List.length_drop,List.length_singleton,List.length_nil]; omega)
            have hlo : ∀ g,Value.ownBlock v2 = some g → wr.heap.size ≤ g := fun g hg => (ra.lt g hg).1
            refine Lib.wp_append_run _ _ _ _ _ rfl _ _ rfl rfl v3 wC ea (hK.out _ _ (grown_ext' hH gb (Nat.le_refl _) hlo) (fun hH => ?_))
            clear hK K ea ra hlo
            try simp only [aT,aZ,aS]
            have ra := rb
            clear rb
            clear gb
            refine tk 11 rfl (by kernel_rfl) (fun _ _ _ h => h) rfl (fun w9 hS9 => by go_simp; (try rfl)) hH ?_
            try simp only [Act.put,aT,aZ,aS]
            refine wpAnyH_done (by kernel_rfl) ?_ _
            go_wp2_with fail
            go_roundw
            case rel => exact ⟨k + 1,_,rfl,hlt,ra.mono hNw,HP _ hH,HH,xr.trans (xs.trans hH)⟩
            case measure => simp only [intOf]; omega
  ·have i0 : ¬ (k : Int) < (l.length : Int) := by omega
   obtain rfl : k = l.length := by omega
   obtain ⟨a,cap,hv⟩ := hO.form
   subst hv
   have hRF := hO.rowF
   have V : Hid (S = some (L.map FamD.y)) := Lib.hid (by
    rw [← hS.out]
    unfold sortB
    rw [List.take_of_length_le (by simp)] at hT
    rw [hT,Option.bind_some]
    exact sortN_some hpm ((ris_fN L).1 hris))
   clear hT hpm hris hO hA hs hS
   go_wp2_with fail
   refine bodyPost_ret (v := .tuple #[.slice a L.length cap,.bool true]) (by simp [results,Tryz.results49,go_sem]) rfl ⟨⟨a,cap,L,true,rfl,hRF,hP,(fun _ => V.out),fun h => by cases h⟩,xr⟩
end Go.Proofs.YtjjnmefihdjglaaGreat
