import Derived.Test.YtjjnmefihdjglaaGreatKO
import Derived.Test.YtjjnmefihdjglaaGreatRcB
set_option maxRecDepth 100000
set_option maxHeartbeats 64000000
set_option linter.all false
namespace Go.Proofs.YtjjnmefihdjglaaGreat
open Go.RowKit
structure FamD.Nar (f : FamD) : Prop where
 n : f.nm.size ≤ 100
 u : f.un.size ≤ 100
 h : f.he.size ≤ 100
 p : f.ps.length ≤ 130
 l : ∀ p ∈ f.ps,p.l.length ≤ 12
theorem FamD.Nar.sm {f : FamD} (h : f.Nar) : f.y.Sm := by
 refine ⟨?_,?_,?_,?_,fun q hq => ?_⟩
 ·have := h.n; show f.nm.size ≤ 1000; omega
 ·have := h.u; show f.un.size ≤ 1000; omega
 ·have := h.h; show f.he.size ≤ 1000; omega
 ·have := h.p; rw [FamD.y_len]; omega
 ·obtain ⟨p,hp,rfl⟩ := List.mem_map.1 hq
  have := h.l p hp
  show p.l.length ≤ 1000
  omega
def WideTold (tn : ByteArray) (l : List FamD) (e : Ending) : Prop := ∃ b : Bool,e = .returned (.bool b) ∧ (b = false → l.length ≤ 40 ∧ tn.size ≤ 100 ∧ ∀ f ∈ l,f.Nar)
theorem WideTold.yes {tn : ByteArray} {l : List FamD} : WideTold tn l (.returned (.bool true)) := ⟨true,rfl,fun h => by cases h⟩
theorem wide_any (tn : ByteArray) (a : Option Addr) (c : Nat) (l : List FamD) (w : World) (hl : (l.length : Int) ≤ 9223372036854775807) (hA : FamsA a l w) (hf : ∀ f ∈ l,(f.ps.length : Int) ≤ 9223372036854775807) :
  Calls Tryz.prog 11 #[.agg #[.string tn,.slice a l.length c]] w fun e w' => WideTold tn l e ∧ Ext w w' := by
 obtain ⟨W,hW⟩ : ∃ W,w.alloc (.cells #[.string tn,.slice a l.length c] 27) = W := ⟨_,rfl⟩
 have x1 : Ext w W := by rw [← hW]; exact (Ext.refl w).alloc _
 have g1 : BatIn w.heap.size tn (.slice a l.length c) W := by rw [← hW]; exact heap_last _ _
 replace hW := Lib.hid hW
 obtain ⟨B,hB⟩ : ∃ B,w.heap.size = B := ⟨_,rfl⟩
 rw [hB] at g1
 obtain ⟨c0,c1⟩ := g1.cells
 by_cases h40 : 40 < l.length
 ·have h40' : (40 : Int) < (l.length : Int) := by omega
  go_enter Tryz.func11,Tryz.ntmps11
  go_wp2_with fail
  rw [hW.out]
  go_wp2_with fail
  go_ret
  exact ⟨.yes,x1⟩
 have h40' : ¬ (40 : Int) < (l.length : Int) := by omega
 by_cases ht : 100 < tn.size
 ·have ht' : (100 : Int) < (tn.size : Int) := by omega
  go_enter Tryz.func11,Tryz.ntmps11
  go_wp2_with fail
  rw [hW.out]
  go_wp2_with fail
  go_ret
  exact ⟨.yes,x1⟩
 have ht' : ¬ (100 : Int) < (tn.size : Int) := by omega
 go_enter Tryz.func11,Tryz.ntmps11
 go_wp2_with fail
 rw [hW.out]
 clear hW hB c0 c1
 go_wp2_with fail
 go_loopw [3,4] (fun s i wr => ∃ (k n : Nat),i = .int .i64 k ∧ s = .int .i64 n ∧ k ≤ l.length ∧ n ≤ 130 ∧ Hid (∀ j (h : j < l.length),j < k → l[j].Nar) ∧ Ext W wr) (fun _ i _ => l.length - (intOf i).toNat)
 case atStart => exact ⟨0,0,rfl,rfl,Nat.zero_le _,Nat.zero_le _,Lib.hid (fun _ _ h => absurd h (Nat.not_lt_zero _)),Ext.refl _⟩
 case round =>
  obtain ⟨k,n,rfl,rfl,hk,hn,hQ,xr⟩ := hrel
  have gr := g1.ext xr
  obtain ⟨c0,c1⟩ := gr.cells
  by_cases hlt : k < l.length
  ·obtain ⟨b,o,rfl,hb,hP⟩ := hA.1 (by omega)
   have ok := (hA.2 _ (List.getElem_mem hlt)).ext (x1.trans xr)
   have hpl := hf _ (List.getElem_mem hlt)
   obtain ⟨p0,p1,p2,p3,p4⟩ := hP k hlt
   obtain ⟨p,hp⟩ : ∃ p,l[k] = p := ⟨_,rfl⟩
   rw [hp] at p0 p1 p2 p3 p4 ok hpl
   replace p0 := ((x1.trans xr).cell hb).trans p0
   replace p1 := ((x1.trans xr).cell hb).trans p1
   replace p2 := ((x1.trans xr).cell hb).trans p2
   replace p3 := ((x1.trans xr).cell hb).trans p3
   replace p4 := ((x1.trans xr).cell hb).trans p4
   have i1 : (k : Int) < (l.length : Int) := by omega
   have xp := (Ext.refl wr).alloc (.cells #[.string p.nm,.int .i64 p.k,.string p.un,.string p.he,.slice p.pa p.ps.length p.pc] 35)
   have gF : FamIn wr.heap.size p.nm p.k p.un p.he (.slice p.pa p.ps.length p.pc) (wr.alloc (.cells #[.string p.nm,.int .i64 p.k,.string p.un,.string p.he,.slice p.pa p.ps.length p.pc] 35)) := heap_last _ _
   clear hP hA hf
   obtain ⟨v,hv⟩ : ∃ v,IntKind.i64.wrap ((n : Int) + (p.ps.length : Int)) = v := ⟨_,rfl⟩
   by_cases v130 : 130 < v
   ·clear hQ
    go_wp2_with fail
    go_ret
    exact ⟨.yes,(x1.trans xr).trans xp⟩
   by_cases l130 : 130 < p.ps.length
   ·have j1 : (130 : Int) < (p.ps.length : Int) := by omega
    clear hQ
    go_wp2_with fail
    go_ret
    exact ⟨.yes,(x1.trans xr).trans xp⟩
   have j1 : ¬ (130 : Int) < (p.ps.length : Int) := by omega
   have hv2 : v = ((n + p.ps.length : Nat) : Int) := by rw [← hv,IntWalk.i64_in _ (by omega)]; omega
   by_cases s1 : 100 < p.nm.size
   ·have j2 : (100 : Int) < (p.nm.size : Int) := by omega
    clear hQ hv2
    go_wp2_with fail
    go_ret
    exact ⟨.yes,(x1.trans xr).trans xp⟩
   have j2 : ¬ (100 : Int) < (p.nm.size : Int) := by omega
   by_cases s2 : 100 < p.un.size
   ·have j3 : (100 : Int) < (p.un.size : Int) := by omega
    clear hQ hv2
    go_wp2_with fail
    go_ret
    exact ⟨.yes,(x1.trans xr).trans xp⟩
   have j3 : ¬ (100 : Int) < (p.un.size : Int) := by omega
   by_cases s3 : 100 < p.he.size
   ·have j4 : (100 : Int) < (p.he.size : Int) := by omega
    clear hQ hv2
    go_wp2_with fail
    go_ret
    exact ⟨.yes,(x1.trans xr).trans xp⟩
   have j4 : ¬ (100 : Int) < (p.he.size : Int) := by omega
   have hQ2 : (∀ q ∈ p.ps,q.l.length ≤ 12) → Hid (∀ j (h : j < l.length),j < k + 1 → l[j].Nar) := fun h12 => Lib.hid (fun j h hj => by
    by_cases e : j = k
    ·subst e; rw [hp]; exact ⟨by omega,by omega,by omega,by omega,h12⟩
    ·exact hQ.out j h (by omega))
   have hvn : n + p.ps.length ≤ 130 := by omega
   obtain ⟨n',hn'⟩ : ∃ n',n + p.ps.length = n' := ⟨_,rfl⟩
   rw [hn'] at hv2 hvn
   rw [hv2] at hv v130
   replace hQ2 := Lib.hid hQ2
   replace ok := ok.ext xp
   clear hQ hp s1 s2 s3 hv2
   go_wp2_with fail
   clear p0 p1 p2 p3 p4 c0 c1 hv v130 hn' j1 j2 j3 j4 l130
   obtain ⟨W2,hW2⟩ : ∃ W2,wr.alloc (.cells #[.string p.nm,.int .i64 p.k,.string p.un,.string p.he,.slice p.pa p.ps.length p.pc] 35) = W2 := ⟨_,rfl⟩
   rw [hW2] at xp gF ok ⊢
   clear hW2
   obtain ⟨F,hF⟩ : ∃ F,wr.heap.size = F := ⟨_,rfl⟩
   rw [hF] at gF ⊢
   clear hF
   go_loopw [6] (fun i ws => ∃ m : Nat,i = .int .i64 m ∧ m ≤ p.ps.length ∧ Hid (∀ j (h : j < p.ps.length),j < m → p.ps[j].l.length ≤ 12) ∧ Ext W2 ws) (fun i _ => p.ps.length - (intOf i).toNat)
   case atStart => exact ⟨0,rfl,Nat.zero_le _,Lib.hid (fun _ _ h => absurd h (Nat.not_lt_zero _)),Ext.refl _⟩
   case round =>
    obtain ⟨m,rfl,hm,hR,xs⟩ := hrel
    have gs := gF.ext xs
    obtain ⟨d0,d1,d2,d3,d4⟩ := gs.cells
    by_cases hmt : m < p.ps.length
    ·obtain ⟨pb,po,ep,hpb,hPP⟩ := ok.1 (by omega)
     have okp := (ok.2 _ (List.getElem_mem hmt)).ext xs
     obtain ⟨q0,_⟩ := hPP m hmt
     obtain ⟨q,hq⟩ : ∃ q,p.ps[m] = q := ⟨_,rfl⟩
     rw [hq] at q0 okp
     replace q0 := (xs.cell (p := ⟨pb,po + m * 9,none⟩) hpb).trans q0
     have m1 : (m : Int) < (p.ps.length : Int) := by omega
     rw [ep] at d4 gs
     clear hPP
     by_cases h12 : 12 < q.l.length
     ·have j1 : (12 : Int) < (q.l.length : Int) := by omega
      clear hR hQ2
      go_wp2_with fail
      go_ret
      exact ⟨.yes,((x1.trans xr).trans xp).trans xs⟩
     have j1 : ¬ (12 : Int) < (q.l.length : Int) := by omega
     have hR2 : Hid (∀ j (h : j < p.ps.length),j < m + 1 → p.ps[j].l.length ≤ 12) := Lib.hid (fun j h hj => by
      by_cases e : j = m
      ·subst e; rw [hq]; omega
      ·exact hR.out j h (by omega))
     clear hR hq ok
     go_wp2_with fail
     go_loopw [7] (fun i wt => ∃ y : Nat,i = .int .i64 y ∧ y ≤ q.l.length ∧ Ext wr wt) (fun i _ => q.l.length - (intOf i).toNat)
     case atStart => exact ⟨0,rfl,Nat.zero_le _,Ext.refl _⟩
     case round =>
      obtain ⟨y,rfl,hy,xt⟩ := hrel
      clear d0 d1 d2 d3 d4
      obtain ⟨d0,d1,d2,d3,d4⟩ := (gs.ext xt).cells
      have q0' := (xt.cell (p := ⟨pb,po + m * 9,none⟩) (Nat.lt_of_lt_of_le hpb xs.size)).trans q0
      by_cases hy2 : y < q.l.length
      ·obtain ⟨lb,lo,ea,hlb,hL⟩ := okp.2.1 (by omega)
       obtain ⟨z0,z1⟩ := hL y hy2
       replace z0 := (xt.cell (p := ⟨lb,lo + y * 2,none⟩) hlb).trans z0
       replace z1 := (xt.cell (p := ⟨lb,lo + y * 2 + 1,none⟩) hlb).trans z1
       have m2 : (y : Int) < (q.l.length : Int) := by omega
       rw [ea] at q0'
       generalize q.l[y] = z at *
       obtain ⟨r1,r2⟩ := z
       dsimp only at z0 z1
       clear hL okp q0
       have xq := xt.alloc (.cells #[.string r1,.string r2] 69)
       by_cases b1 : 100 < r1.size
       ·have b1' : (100 : Int) < (r1.size : Int) := by omega
        go_wp2_with fail
        go_ret
        exact ⟨.yes,(((x1.trans xr).trans xp).trans xs).trans xq⟩
       ·have b1' : ¬ (100 : Int) < (r1.size : Int) := by omega
        by_cases b2 : 100 < r2.size
        ·have b2' : (100 : Int) < (r2.size : Int) := by omega
         go_wp2_with fail
         go_ret
         exact ⟨.yes,(((x1.trans xr).trans xp).trans xs).trans xq⟩
        ·have b2' : ¬ (100 : Int) < (r2.size : Int) := by omega
         go_wp2_with fail
         go_roundw
         case rel => exact ⟨y + 1,rfl,hy2,xq⟩
         case measure => simp only [intOf]; omega
      ·have m2 : ¬ (y : Int) < (q.l.length : Int) := by omega
       go_wp2_with fail
       go_roundw
       case rel => exact ⟨m + 1,rfl,hmt,hR2,xs.trans xt⟩
       case measure => simp only [intOf]; omega
    ·have m1 : ¬ (m : Int) < (p.ps.length : Int) := by omega
     have hall : ∀ q ∈ p.ps,q.l.length ≤ 12 := fun q hq => by
      obtain ⟨j,hj,e⟩ := List.getElem_of_mem hq
      have := hR.out j hj (by omega)
      rw [e] at this; exact this
     have hQ3 := hQ2.out hall
     clear hR hQ2 hall
     go_wp2_with fail
     go_roundw
     case rel => exact ⟨k + 1,n',rfl,rfl,hlt,hvn,hQ3,(xr.trans xp).trans xs⟩
     case measure => simp only [intOf]; omega
  ·have i1 : ¬ (k : Int) < (l.length : Int) := by omega
   have hQ2 : Hid (∀ f ∈ l,f.Nar) := Lib.hid (fun f hf2 => by
    obtain ⟨j,hj,e⟩ := List.getElem_of_mem hf2
    have := hQ.out j hj (by omega)
    rw [e] at this; exact this)
   clear hQ hf hA
   go_wp2_with fail
   go_ret
   exact ⟨⟨false,rfl,fun _ => ⟨by omega,by omega,hQ2.out⟩⟩,x1.trans xr⟩
theorem goodF_ris {f : FamY} (h : goodF f = true) : Ris cmpY f.ps := by
 unfold goodF goodFamY at h
 simp only [Bool.and_eq_true] at h
 have h2 := h.2.2
 rw [risesK_iff,ris_map] at h2
 exact h2
structure GoodB (tn : ByteArray) (L : List FamY) : Prop where
 ten : tenB tn = true
 all : L.all goodF = true
 ris : risesN (L.map FamY.nm) = true
 len : L.length ≤ 30
 pts : ptsN L ≤ 120
theorem GoodB.of {tn : ByteArray} {L : List FamY} (h : checkB tn L = 0) : GoodB tn L := by
 unfold checkB at h
 by_cases h1 : tenB tn = true ∧ L.all goodF = true ∧ risesN (L.map FamY.nm) = true
 ·rw [if_pos h1] at h
  by_cases h2 : L.length ≤ 30 ∧ ptsN L ≤ 120
  ·exact ⟨h1.1,h1.2.1,h1.2.2,h2.1,h2.2⟩
  ·rw [if_neg h2] at h; cases h
 ·rw [if_neg h1] at h; cases h
theorem GoodB.good {tn : ByteArray} {L : List FamY} (h : GoodB tn L) : ∀ f ∈ L,goodF f = true := List.all_eq_true.1 h.all
theorem GoodB.risN {tn : ByteArray} {L : List FamY} (h : GoodB tn L) : Ris cmpNm L := by
 have := (risesN_iff _).1 h.ris
 unfold Ris at this ⊢
 rw [List.pairwise_map] at this
 exact this
end Go.Proofs.YtjjnmefihdjglaaGreat
