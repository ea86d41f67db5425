import Derived.Test.YtjjnmefihdjglaaGreatBatC
import Derived.Test.YtjjnmefihdjglaaGreatKN
set_option maxRecDepth 100000
set_option maxHeartbeats 64000000
set_option linter.all false
namespace Go.Proofs.YtjjnmefihdjglaaGreat
open Go.RowKit
theorem sortCmp_any (x y : FamD) (w : World) : Calls Tryz.prog 40 #[x.v,y.v] w fun e w' => e = .returned (.int .i64 (cmpFN x y)) ∧ Ext w w' := by
 have SC := fun W => strCompare_any x.nm y.nm W
 unfold cmpFN
 generalize cmpS x.nm y.nm = r at *
 unfold FamD.v
 have xw := ((Ext.refl w).alloc (.cells #[.string x.nm,.int .i64 x.k,.string x.un,.string x.he,.slice x.pa x.ps.length x.pc] 35)).alloc (.cells #[.string y.nm,.int .i64 y.k,.string y.un,.string y.he,.slice y.pa y.ps.length y.pc] 35)
 go_enter Tryz.func40,Tryz.ntmps40
 go_wp2_with fail
 (with_reducible refine (SC _).mono ?_)
 rintro e w1 ⟨rfl,x1⟩
 go_wp2_with fail
 go_ret
 exact ⟨rfl,xw.trans x1⟩
theorem insNilF_any (F : Value) (w : World) : Calls Tryz.prog 103 #[.slice none 0 0,.int .i64 0,.int .i64 0,F] w fun e w' => e = .returned (.tuple #[]) ∧ Ext w w' := by
 go_enter Tryz.func103,Tryz.ntmps103
 go_wp2_with fail
 refine wp_loop_rounds 1 ?_
 rw [rounds_succ]
 go_wp2_with fail
 go_end0
 exact ⟨rfl,Ext.refl _⟩
theorem stableNilF_any (F : Value) (w : World) : Calls Tryz.prog 71 #[.slice none 0 0,.int .i64 0,F] w fun e w' => e = .returned (.tuple #[]) ∧ Ext w w' := by
 have I := insNilF_any F
 go_enter Tryz.func71,Tryz.ntmps71
 go_wp2_with fail
 refine wp_loop_rounds 1 ?_
 rw [rounds_succ]
 go_wp2_with fail
 (with_reducible refine (I _).mono ?_)
 rintro e w1 ⟨rfl,x1⟩
 go_wp2_with fail
 refine wp_loop_rounds 1 ?_
 rw [rounds_succ]
 go_wp2_with fail
 go_end0
 exact ⟨rfl,x1⟩
theorem sortNilF_any (F : Value) (w : World) : Calls Tryz.prog 39 #[.slice none 0 0,F] w fun e w' => e = .returned (.tuple #[]) ∧ Ext w w' := by
 have I := stableNilF_any F
 go_enter Tryz.func39,Tryz.ntmps39
 go_wp2_with fail
 (with_reducible refine (I _).mono ?_)
 rintro e w1 ⟨rfl,x1⟩
 go_wp2_with fail
 go_end0
 exact ⟨rfl,x1⟩
theorem range_getDF (L : List FamD) : (List.range L.length).map (fun i => L[i]?.getD FamD.zero) = L := by
 refine List.ext_getElem (by simp) (fun i h1 h2 => ?_)
 simp at h1 ⊢
 simp [h1]
theorem sortFams_any (base : Nat) (v : Value) (L : List FamD) (w : World) (hO : OwnF base v L w) (hl : L.length ≤ 1000) :
  Calls Tryz.prog 39 #[v,.func (.func 40) #[] #[]] w fun e w' => e = .returned (.tuple #[]) ∧ ∃ L',L'.Perm L ∧ L'.Pairwise (fun x y => ¬ cmpFN y x < 0) ∧ OwnF base v L' w' ∧ w.grownBy w' v.ownBlock := by
 rcases hO.1 with ⟨rfl,h0⟩ | ⟨g,cap,rfl,q1,q2,c,q3,q4,q5⟩
 ·have : L = [] := List.length_eq_zero_iff.1 h0
  subst this
  exact (sortNilF_any _ w).mono fun e w' ⟨h1,h2⟩ => ⟨h1,[],List.Perm.refl _,List.Pairwise.nil,hO.ext h2,h2.grown _⟩
 ·have hR : RowE 5 35 FamD.cs g L.length (fun i => L[i]?.getD FamD.zero) w := ⟨c,q3,by rw [q4]; exact Nat.mul_le_mul_right 5 q2,q5⟩
  have hS : ∀ i,i < L.length → (fun i => L[i]?.getD FamD.zero) i ∈ L := fun i hi => by simp [hi]
  refine (sort_f (fun p => p ∈ L) cmpFN (lt_of_cmp cmpFN_cmp) g L.length cap (fun i => L[i]?.getD FamD.zero) w w hR.lt hl (ExtB.refl _ _) hR hS
   (fun W x y _ _ _ => sortCmp_any x y W)).mono ?_
  rintro e w' ⟨rfl,d',k1,k2,k3,k4⟩
  have hp : ((List.range L.length).map d').Perm L := by
   have := k1.perm (Nat.le_refl _)
   rwa [range_getDF] at this
  refine ⟨rfl,(List.range L.length).map d',hp,sd_pairwise (f := cmpFN) d' _ k2,⟨?_,fun p hpm => ?_⟩,k4.grown⟩
  ·obtain ⟨c',e1,e2⟩ := k4.row c _ _ q3
   obtain ⟨c2,e3,e4,e5⟩ := k3
   rw [e1] at e3
   injection e3 with e3
   injection e3 with e3
   subst e3
   rw [List.length_map,List.length_range]
   refine .inr ⟨g,cap,rfl,q1,q2,c',e1,by rw [e2]; exact q4,fun i hi j hj => ?_⟩
   rw [e5 i hi j hj]
   simp [hi]
  ·have hm := hp.subset hpm
   exact (hO.2 p hm).sta k4.sta ((hO.2 p hm).at_.mono fun b k => k.2.2 g rfl)
open Classical in
noncomputable def srt (f : FamY) : Option FamY := if h : ∃ M : List PtY,M.Perm f.ps ∧ Ris cmpY M then some { f with ps := Classical.choose h } else none
theorem srt_some {f : FamY} {M : List PtY} (h1 : M.Perm f.ps) (h2 : Ris cmpY M) : srt f = some { f with ps := M } := by
 have h : ∃ M : List PtY,M.Perm f.ps ∧ Ris cmpY M := ⟨M,h1,h2⟩
 unfold srt
 rw [dif_pos h]
 have k := Classical.choose_spec h
 rw [Ris.unique cmpY_cmp k.2 h2 (k.1.trans h1.symm)]
theorem srt_none {f : FamY} (h : ∀ M : List PtY,M.Perm f.ps → ¬ Ris cmpY M) : srt f = none := by
 unfold srt
 rw [dif_neg]
 rintro ⟨M,h1,h2⟩
 exact h M h1 h2
theorem srt_self {f : FamY} (h : Ris cmpY f.ps) : srt f = some f := srt_some (List.Perm.refl _) h
theorem srt_is {f g : FamY} (h : srt f = some g) : g.nm = f.nm ∧ g.k = f.k ∧ g.un = f.un ∧ g.he = f.he ∧ g.ps.Perm f.ps ∧ Ris cmpY g.ps := by
 unfold srt at h
 split at h
 ·rename_i k
  have e := Classical.choose_spec k
  injection h with h
  subst h
  exact ⟨rfl,rfl,rfl,rfl,e.1,e.2⟩
 ·cases h
theorem srt_sm {f g : FamY} (h : srt f = some g) (s : f.Sm) : g.Sm := by
 obtain ⟨h1,_,h3,h4,h5,_⟩ := srt_is h
 exact ⟨h1 ▸ s.n,h3 ▸ s.u,h4 ▸ s.h,h5.length_eq ▸ s.p,fun q hq => s.l q (h5.subset hq)⟩
theorem SortTold.srt {f : FamD} {base : Nat} {e : Ending} {w' : World} (h : SortTold f.nm f.k f.un f.he f.ps base e w') :
  (∃ a c L,Go.Proofs.YtjjnmefihdjglaaGreat.srt f.y = some ⟨f.nm,f.k,f.un,f.he,L.map PtD.y⟩ ∧ e = .returned (.tuple #[.agg #[.string f.nm,.int .i64 f.k,.string f.un,.string f.he,.slice a L.length c],.bool true]) ∧ OwnP base (.slice a L.length c) L w' ∧ PtsA a L w') ∨
  (Go.Proofs.YtjjnmefihdjglaaGreat.srt f.y = none ∧ e = .returned (.tuple #[.agg #[.string ⟨#[]⟩,.int .i64 0,.string ⟨#[]⟩,.string ⟨#[]⟩,.slice none 0 0],.bool false])) := by
 rcases h with ⟨v,L,h1,h2,h3,h4⟩ | ⟨h1,h2⟩
 ·obtain ⟨a,c,rfl,h5⟩ := h4.pts
  exact .inl ⟨a,c,L,srt_some h1 h2,h3,h4,h5⟩
 ·exact .inr ⟨srt_none h1,h2⟩
noncomputable def srts : List FamY → Option (List FamY)
 | [] => some []
 | f :: l => (srt f).bind fun g => (srts l).map fun m => g :: m
theorem srts_append (l m : List FamY) : srts (l ++ m) = (srts l).bind fun a => (srts m).map fun b => a ++ b := by
 induction l with
 | nil => simp [srts]
 | cons f l ih =>
   rw [List.cons_append,srts,srts,ih]
   cases srt f <;> simp
   cases srts l <;> simp
   cases srts m <;> simp
theorem srts_bad {l : List FamY} {f : FamY} (hf : f ∈ l) (h : srt f = none) : srts l = none := by
 induction l with
 | nil => cases hf
 | cons g l ih =>
   rw [srts]
   rcases List.mem_cons.1 hf with rfl | hf
   ·rw [h]; rfl
   ·rw [ih hf]
    cases srt g <;> rfl
theorem srts_len : ∀ {l m : List FamY},srts l = some m → m.length = l.length
 | [],m,h => by injection h with h; subst h; rfl
 | f :: l,m,h => by
   rw [srts] at h
   cases hf : srt f with
   | none => rw [hf] at h; cases h
   | some g =>
     rw [hf,Option.bind_some] at h
     cases hl : srts l with
     | none => rw [hl] at h; cases h
     | some n =>
       rw [hl,Option.map_some] at h
       injection h with h
       subst h
       simp [srts_len hl]
theorem srts_sm : ∀ {l m : List FamY},srts l = some m → (∀ f ∈ l,f.Sm) → ∀ f ∈ m,f.Sm
 | [],m,h,_ => by injection h with h; subst h; intro f hf; cases hf
 | f :: l,m,h,s => by
   rw [srts] at h
   cases hf : srt f with
   | none => rw [hf] at h; cases h
   | some g =>
     rw [hf,Option.bind_some] at h
     cases hl : srts l with
     | none => rw [hl] at h; cases h
     | some n =>
       rw [hl,Option.map_some] at h
       injection h with h
       subst h
       intro x hx
       rcases List.mem_cons.1 hx with rfl | hx
       ·exact srt_sm hf (s f (by simp))
       ·exact srts_sm hl (fun y hy => s y (by simp [hy])) x hx
theorem srts_self : ∀ {l : List FamY},(∀ f ∈ l,Ris cmpY f.ps) → srts l = some l
 | [],_ => rfl
 | f :: l,h => by
   rw [srts,srt_self (h f (by simp)),srts_self (fun g hg => h g (by simp [hg]))]
   rfl
def cmpNm (x y : FamY) : Int := cmpS x.nm y.nm
theorem cmpNm_cmp : Cmp cmpNm := cmpS_cmp.pull (fun f : FamY => f.nm)
open Classical in
noncomputable def sortN (M : List FamY) : Option (List FamY) := if h : ∃ N : List FamY,N.Perm M ∧ Ris cmpNm N then some (Classical.choose h) else none
theorem sortN_some {M N : List FamY} (h1 : N.Perm M) (h2 : Ris cmpNm N) : sortN M = some N := by
 have h : ∃ N : List FamY,N.Perm M ∧ Ris cmpNm N := ⟨N,h1,h2⟩
 unfold sortN
 rw [dif_pos h]
 have k := Classical.choose_spec h
 rw [Ris.unique cmpNm_cmp k.2 h2 (k.1.trans h1.symm)]
theorem sortN_none {M : List FamY} (h : ∀ N : List FamY,N.Perm M → ¬ Ris cmpNm N) : sortN M = none := by
 unfold sortN
 rw [dif_neg]
 rintro ⟨N,h1,h2⟩
 exact h N h1 h2
theorem sortN_is {M N : List FamY} (h : sortN M = some N) : N.Perm M ∧ Ris cmpNm N := by
 unfold sortN at h
 split at h
 ·rename_i k
  injection h with h
  subst h
  exact Classical.choose_spec k
 ·cases h
noncomputable def sortB (l : List FamY) : Option (List FamY) := (srts l).bind sortN
theorem risesN_y (L : List FamD) : risesN (L.map FamD.nm) = true ↔ Ris cmpNm (L.map FamD.y) := by
 rw [risesN_iff]
 unfold Ris
 rw [List.pairwise_map,List.pairwise_map]
 exact Iff.rfl
def SortBTold (tn : ByteArray) (l : List FamY) (base : Nat) (e : Ending) (w' : World) : Prop :=
 (∃ v L,sortB l = some (L.map FamD.y) ∧ e = .returned (.tuple #[.agg #[.string tn,v],.bool true]) ∧ OwnF base v L w') ∨
 (sortB l = none ∧ e = .returned (.tuple #[.agg #[.string ⟨#[]⟩,.slice none 0 0],.bool false]))
theorem batSort_any (tn : ByteArray) (a : Option Addr) (c : Nat) (l : List FamD) (w : World) (hl : l.length ≤ 1000) (hA : FamsA a l w) (hs : ∀ f ∈ l,f.y.Sm) :
  Calls Tryz.prog 19 #[.agg #[.string tn,.slice a l.length c]] w fun e w' => SortBTold tn (l.map FamD.y) w.heap.size e w' ∧ Ext w w' := by
 obtain ⟨W,hW⟩ : ∃ W,((w.alloc (.cells #[.string tn,.slice a l.length c] 27)).alloc (.cells #[.string ⟨#[]⟩,.slice none 0 0] 27)).alloc (.cells #[.string tn,.slice none 0 0] 27) = W := ⟨_,rfl⟩
 have x1 : Ext w W := by rw [← hW]; exact (((Ext.refl w).alloc _).alloc _).alloc _
 have g1 : BatIn w.heap.size tn (.slice a l.length c) W := by rw [← hW]; exact BatIn.ext (heap_at2a _ _ _) ((Ext.refl _).alloc _)
 have g2 : BatIn (w.heap.size + 1) ⟨#[]⟩ (.slice none 0 0) W := by rw [← hW]; exact BatIn.ext (heap_at2b _ _ _) ((Ext.refl _).alloc _)
 have g3 : BatIn (w.heap.size + 1 + 1) tn (.slice none 0 0) W := by
  rw [← hW]
  have := heap_last ((w.alloc (.cells #[.string tn,.slice a l.length c] 27)).alloc (.cells #[.string ⟨#[]⟩,.slice none 0 0] 27)) (.cells #[.string tn,.slice none 0 0] 27)
  rw [heap_size_alloc,heap_size_alloc] at this
  exact this
 have hWz : w.heap.size + 3 ≤ W.heap.size := by rw [← hW]; simp
 replace hW := Lib.hid hW
 obtain ⟨c0,c1⟩ := g1.cells
 go_enter Tryz.func19,Tryz.ntmps19
 go_wp2_with fail
 rw [hW.out]
 clear hW c0 c1 g1
 obtain ⟨N,hN⟩ : ∃ N,W.heap.size = N := ⟨_,rfl⟩
 rw [hN] at hWz
 go_loopw [15] (fun i wr => ∃ (k : Nat) (L : List FamD) (v : Value),i = .int .i64 k ∧ k ≤ l.length ∧ Hid (srts ((l.map FamD.y).take k) = some (L.map FamD.y)) ∧ OwnF N v L wr ∧ BatIn (w.heap.size + 1) ⟨#[]⟩ (.slice none 0 0) wr ∧ BatIn (w.heap.size + 1 + 1) tn v wr ∧ Ext w wr ∧ N ≤ wr.heap.size) (fun i _ => l.length - (intOf i).toNat)
 case atStart => exact ⟨0,[],_,rfl,Nat.zero_le _,Lib.hid rfl,OwnF.nil _ _,g2,g3,x1,by omega⟩
 case round =>
  clear g2 g3
  obtain ⟨k,L,v,rfl,hk,hQ,hO,g2,g3,xr,hNr⟩ := hrel
  obtain ⟨av,cv,hv⟩ := hO.1.form
  subst hv
  have hL2 : L.length = k := by have := srts_len hQ.out; simpa [Nat.min_eq_left hk] using this
  by_cases hlt : k < l.length
  ·obtain ⟨b,o,rfl,hb,hP⟩ := hA.1 (by omega)
   have ok := hA.2 _ (List.getElem_mem hlt)
   have sm := hs _ (List.getElem_mem hlt)
   obtain ⟨p0,p1,p2,p3,p4⟩ := hP k hlt
   have htk : (l.map FamD.y).take (k + 1) = (l.map FamD.y).take k ++ [l[k].y] := by rw [List.take_add_one,List.getElem?_map,List.getElem?_eq_getElem hlt]; rfl
   have hmem : l[k].y ∈ l.map FamD.y := List.mem_map_of_mem (List.getElem_mem hlt)
   obtain ⟨p,hp⟩ : ∃ p,l[k] = p := ⟨_,rfl⟩
   rw [hp] at p0 p1 p2 p3 p4 ok sm htk hmem
   replace p0 := (Ext.cell xr hb).trans p0
   replace p1 := (Ext.cell xr hb).trans p1
   replace p2 := (Ext.cell xr hb).trans p2
   replace p3 := (Ext.cell xr hb).trans p3
   replace p4 := (Ext.cell xr hb).trans p4
   have PT := fun W (x : Ext w W) => famSort_any p.nm p.k p.un p.he p.pa p.pc p.ps W sm.pl sm.ll (ok.ext x)
   replace hL2 := Lib.hid hL2
   replace htk := Lib.hid htk
   clear hp hP hA hs ok
   go_wp2_with fail
   have x2 := (Ext.refl wr).alloc (.cells #[.string p.nm,.int .i64 p.k,.string p.un,.string p.he,.slice p.pa p.ps.length p.pc] 35)
   (with_reducible refine (PT _ (xr.trans x2)).mono ?_)
   rintro e w2 ⟨hst,x3⟩
   clear p0 p1 p2 p3 p4 PT
   have x4 := x2.trans x3
   rcases SortTold.srt hst with ⟨a',c',LP,hsr,rfl,hOP,hPts⟩ | ⟨hsr,rfl⟩
   ·clear hst
    obtain ⟨q,hq⟩ : ∃ q : FamD,FamD.mk p.nm p.k p.un p.he a' c' LP = q := ⟨_,rfl⟩
    have hqy : srt p.y = some q.y := by rw [← hq]; exact hsr
    have hqb : q.Blk (fun b => wr.heap.size < b ∧ b < w2.heap.size) := by
     have := hOP.blk
     rw [heap_size_alloc] at this
     rw [← hq]
     exact ⟨fun x hx => this.1 x hx,fun p hp x hx => this.2 p hp x hx⟩
    have hqp : PtsA q.pa q.ps w2 := by rw [← hq]; exact hPts
    have e0 : p.nm = q.nm := by rw [← hq]
    have e1 : p.k = q.k := by rw [← hq]
    have e2 : p.un = q.un := by rw [← hq]
    have e3 : p.he = q.he := by rw [← hq]
    have e4 : Value.slice a' LP.length c' = .slice q.pa q.ps.length q.pc := by rw [← hq]
    rw [e0,e1,e2,e3,e4]
    have hs2 : wr.heap.size < w2.heap.size := by have := x3.size; rw [heap_size_alloc] at this; omega
    clear e0 e1 e2 e3 e4 hOP hPts hq hsr x2 x3
    have hQ2 : Hid (srts ((l.map FamD.y).take (k + 1)) = some ((L ++ [q]).map FamD.y)) := Lib.hid (by
     rw [htk.out,srts_append,hQ.out,Option.bind_some,srts,hqy,List.map_append]; rfl)
    have xq := (Ext.refl w2).alloc (.cells #[.string q.nm,.int .i64 q.k,.string q.un,.string q.he,.slice q.pa q.ps.length q.pc] 35)
    have gq : FamIn w2.heap.size q.nm q.k q.un q.he (.slice q.pa q.ps.length q.pc) (w2.alloc (.cells #[.string q.nm,.int .i64 q.k,.string q.un,.string q.he,.slice q.pa q.ps.length q.pc] 35)) := heap_last _ _
    have hsq : w2.heap.size < (w2.alloc (.cells #[.string q.nm,.int .i64 q.k,.string q.un,.string q.he,.slice q.pa q.ps.length q.pc] 35)).heap.size := by rw [heap_size_alloc]; omega
    have x5 := x4.trans xq
    replace g2 := g2.ext x5
    replace g3 := g3.ext x5
    obtain ⟨d0,d1⟩ := g3.cells
    obtain ⟨p0,p1,p2,p3,p4⟩ := gq.cells
    have xa := (Ext.refl (w2.alloc (.cells #[.string q.nm,.int .i64 q.k,.string q.un,.string q.he,.slice q.pa q.ps.length q.pc] 35))).alloc (.cells #[.string q.nm,.int .i64 q.k,.string q.un,.string q.he,.slice q.pa q.ps.length q.pc] 35)
    have hcell : FamIn (w2.heap.size + 1) q.nm q.k q.un q.he (.slice q.pa q.ps.length q.pc) ((w2.alloc (.cells #[.string q.nm,.int .i64 q.k,.string q.un,.string q.he,.slice q.pa q.ps.length q.pc] 35)).alloc (.cells #[.string q.nm,.int .i64 q.k,.string q.un,.string q.he,.slice q.pa q.ps.length q.pc] 35)) := by rw [← heap_size_alloc w2]; exact heap_last _ _
    have x6 := x5.trans xa
    have hO3 := hO.ext x6
    have hlt3 := hO.1.lt
    obtain ⟨w3,hw3⟩ : ∃ w3,(w2.alloc (.cells #[.string q.nm,.int .i64 q.k,.string q.un,.string q.he,.slice q.pa q.ps.length q.pc] 35)).alloc (.cells #[.string q.nm,.int .i64 q.k,.string q.un,.string q.he,.slice q.pa q.ps.length q.pc] 35) = w3 := ⟨_,rfl⟩
    rw [hw3] at x6 xa hcell hO3
    have hs3 : (w2.alloc (.cells #[.string q.nm,.int .i64 q.k,.string q.un,.string q.he,.slice q.pa q.ps.length q.pc] 35)).heap.size < w3.heap.size := by rw [← hw3]; simp
    replace hw3 := Lib.hid hw3
    have hc : ∀ i,i < 1 → ∀ j,j < 5 → w3.cell? ((⟨w2.heap.size + 1,0,none⟩ : Addr).add (i * 5 + j)) = (FamD.cs q)[j]? := by
     intro i hi j hj
     obtain rfl : i = 0 := by omega
     rw [Addr.add_lit,Lib.cell_of_heap hcell]
     match j,hj with
     | 0,_ => rfl
     | 1,_ => rfl
     | 2,_ => rfl
     | 3,_ => rfl
     | 4,_ => rfl
    go_wp2_with (at_builtin; (try rw [hw3.out]); refine wpList_append_structs w3 rfl _ _ rfl tyFam (fun _ => rfl) famC_one (by decide) N _ L.length (fun i => L[i]?.getD FamD.zero) rfl hO3.1 ?c2 ⟨w2.heap.size + 1,0,none⟩ 1 1 (fun _ => q) rfl hc ?c3 ?c4 (.inr (by decide)) ?_)
    case c2 => exact Nat.le_trans hNr x6.size
    case c3 => have := hL2.out; omega
    case c4 => have := hL2.out; omega
    intro v' w4 h1 h2 h3
    have hb3 : FamAt N _ w3 q := ⟨hqp.ext (xq.trans xa),hqb.mono fun b hb => ⟨by omega,by omega,fun g hg => by have := (hlt3 g hg).2; omega⟩⟩
    have hO4 := hO3.push hb3 h1 h2 h3
    have x7 : Ext w w4 := grown_ext' (xr.trans x6) h2 (Nat.le_refl _) (fun g hg => by have := (hlt3 g hg).1; omega)
    have hb4 : ∀ x,(Value.slice av L.length cv).ownBlock = some x → N ≤ x := fun x hx => (hlt3 x hx).1
    replace g2 := (g2.ext xa).grown h2 (fun x hx => by have := hb4 x hx; omega)
    replace g3 := (g3.ext xa).grown h2 (fun x hx => by have := hb4 x hx; omega)
    have hN4 : N ≤ w4.heap.size := by have := h2.size; have := x6.size; omega
    clear h1 h2 h3 hO3 hO hc hcell hqb hqp hqy d0 d1 p0 p1 p2 p3 p4 gq
    obtain ⟨a5,c5,hv5⟩ := hO4.1.form
    subst hv5
    obtain ⟨d0,d1⟩ := g3.cells
    have fr := fun o => g3.free o
    have g2' := g2.setC (w.heap.size + 1 + 1) 1 (.slice a5 (L ++ [q]).length c5) (by omega)
    have g3' := g3.set1 (.slice a5 (L ++ [q]).length c5)
    have hO5 := hO4.setC (w.heap.size + 1 + 1) 1 (.slice a5 (L ++ [q]).length c5) (by omega)
    have x8 := x7.setC (w.heap.size + 1 + 1) 1 (.slice a5 (L ++ [q]).length c5) (by omega)
    have hN5 : N ≤ (w4.setCell ⟨w.heap.size + 1 + 1,1,none⟩ (.slice a5 (L ++ [q]).length c5)).heap.size := by rw [World.size_setCell]; exact hN4
    clear g2 g3 hO4
    obtain ⟨L',hL'⟩ : ∃ L',L ++ [q] = L' := ⟨_,rfl⟩
    rw [hL'] at hQ2 g2' g3' hO5 x8 hN5 ⊢
    clear hL'
    go_wp2_with fail
    go_roundw
    case rel => exact ⟨k + 1,L',_,rfl,hlt,hQ2,hO5,g2',g3',x8,hN5⟩
    case measure => simp only [intOf]; omega
   ·clear hst
    have hB : Hid (sortB (l.map FamD.y) = none) := Lib.hid (by unfold sortB; rw [srts_bad hmem hsr]; rfl)
    have xz := x4.alloc (.cells #[.string ⟨#[]⟩,.int .i64 0,.string ⟨#[]⟩,.string ⟨#[]⟩,.slice none 0 0] 35)
    replace g2 := g2.ext xz
    obtain ⟨d0,d1⟩ := g2.cells
    have fr := fun o => g2.free o
    clear g2 g3 hO
    go_wp2_with fail
    refine bodyPost_ret (v := .tuple #[.agg #[.string ⟨#[]⟩,.slice none 0 0],.bool false]) ?_ rfl ⟨.inr ⟨hB.out,rfl⟩,((xr.trans xz).setC (w.heap.size + 1) 0 _ (Nat.le_succ _)).setC (w.heap.size + 1) 1 _ (Nat.le_succ _)⟩
    simp [results,Tryz.results19,go_sem,d0,d1]
  ·obtain rfl : k = l.length := by omega
   rw [show (l.map FamD.y).take l.length = l.map FamD.y from List.take_of_length_le (by simp)] at hQ
   have hQ2 := hQ
   clear hQ hA hs
   obtain ⟨d0,d1⟩ := g3.cells
   have ST := sortFams_any N _ L wr hO (by omega)
   replace hL2 := Lib.hid hL2
   go_wp2_with fail
   (with_reducible refine ST.mono ?_)
   rintro e w2 ⟨rfl,L',hp,hsd,hO2,hg⟩
   clear ST d0 d1
   have hb4 : ∀ x,(Value.slice av L.length cv).ownBlock = some x → N ≤ x := fun x hx => (hO.1.lt x hx).1
   have x2 : Ext w w2 := grown_ext' xr hg (Nat.le_refl _) (fun x hx => by have := hb4 x hx; omega)
   replace g2 := g2.grown hg (fun x hx => by have := hb4 x hx; omega)
   replace g3 := g3.grown hg (fun x hx => by have := hb4 x hx; omega)
   clear hO hg hb4
   obtain ⟨a3,c3,hv3,hF⟩ := hO2.fams
   injection hv3 with e1 e2 e3
   subst e1 e3
   have hlen : L'.length ≤ 1000 := by rw [hp.length_eq,hL2.out]; exact hl
   rw [e2] at g3 hO2 ⊢
   have RI := fun W (x : Ext w2 W) => risesF_any av cv L' W (by omega) (hF.ext x)
   have hyp : (L'.map FamD.y).Perm (L.map FamD.y) := hp.map _
   have hsort : (L'.map FamD.y).Pairwise (fun x y => ¬ cmpNm y x < 0) := by rw [List.pairwise_map]; exact hsd.imp (fun {x y} h => show ¬ cmpFN y x < 0 by omega)
   have hfin := risesN_y L'
   have hfin2 : sortB (l.map FamD.y) = sortN (L.map FamD.y) := by unfold sortB; rw [hQ2.out]; rfl
   generalize risesN (L'.map FamD.nm) = R at *
   replace hfin := Lib.hid hfin
   replace e2 := Lib.hid e2
   clear hp hsd hL2
   obtain ⟨d0,d1⟩ := g3.cells
   go_wp2_with fail
   (with_reducible refine (RI _ (Ext.refl _)).mono ?_)
   rintro e w3 ⟨rfl,x3⟩
   clear RI d0 d1
   replace g2 := g2.ext x3
   replace g3 := g3.ext x3
   have x4 := x2.trans x3
   replace hO2 := hO2.ext x3
   obtain ⟨d0,d1⟩ := g3.cells
   obtain ⟨e0,e1⟩ := g2.cells
   have fr := fun o => g2.free o
   clear g2 g3
   have hz1 : w.heap.size ≤ w.heap.size + 1 := Nat.le_succ _
   cases R
   ·go_wp2_with fail
    refine bodyPost_ret (v := .tuple #[.agg #[.string ⟨#[]⟩,.slice none 0 0],.bool false]) ?_ rfl ⟨.inr ⟨?_,rfl⟩,(x4.setC (w.heap.size + 1) 0 _ hz1).setC (w.heap.size + 1) 1 _ hz1⟩
    ·simp [results,Tryz.results19,go_sem,e0,e1]
    ·rw [hfin2]
     refine sortN_none fun M hM hr => absurd (hfin.out.2 (Ris.of_sorted cmpNm_cmp (hsort.imp (fun {x y} h => by omega)) hr (hyp.trans hM.symm))) (by decide)
   ·go_wp2_with fail
    refine bodyPost_ret (v := .tuple #[.agg #[.string tn,.slice av L'.length cv],.bool true]) ?_ rfl ⟨.inl ⟨_,L',?_,rfl,((hO2.setC (w.heap.size + 1) 0 _ (by omega)).setC (w.heap.size + 1) 1 _ (by omega)).mono (by omega)⟩,(x4.setC (w.heap.size + 1) 0 _ hz1).setC (w.heap.size + 1) 1 _ hz1⟩
    ·simp [results,Tryz.results19,go_sem,e0,e1]
    ·rw [hfin2]
     exact sortN_some hyp (hfin.out.1 (by first | rfl | trivial))
theorem OwnF.sm {base : Nat} {v : Value} {L : List FamD} {W : World} (_h : OwnF base v L W) {l : List FamY} (hb : sortB l = some (L.map FamD.y)) (hs : ∀ f ∈ l,f.Sm) : ∀ f ∈ L,f.y.Sm := by
 intro f hf
 unfold sortB at hb
 cases hm : srts l with
 | none => rw [hm] at hb; cases hb
 | some M =>
   rw [hm,Option.bind_some] at hb
   have h1 := (sortN_is hb).1
   exact srts_sm hm hs _ (h1.subset (List.mem_map_of_mem hf))
theorem sortB_len {l N : List FamY} (hb : sortB l = some N) : N.length = l.length := by
 unfold sortB at hb
 cases hm : srts l with
 | none => rw [hm] at hb; cases hb
 | some M =>
   rw [hm,Option.bind_some] at hb
   rw [(sortN_is hb).1.length_eq,srts_len hm]
theorem sortN_dup {l1 l2 : List FamY} {x y : FamY} (hx : x ∈ l1) (hy : y ∈ l2) (e : cmpNm x y = 0) : sortN (l1 ++ l2) = none := by
 refine sortN_none fun N hN h => ?_
 have h1 : N.Pairwise (fun a b => cmpNm a b ≠ 0) := h.imp (fun {a b} hab => by omega)
 have h2 : (l1 ++ l2).Pairwise (fun a b => cmpNm a b ≠ 0) := (hN.pairwise_iff (fun {a b} hab => by have := cmpNm_cmp.anti a b; omega)).1 h1
 rw [List.pairwise_append] at h2
 exact h2.2.2 x hx y hy e
theorem two_of_map {L : List FamD} {a b : FamY} (h : L.map FamD.y = [a,b]) : ∃ f1 f2,L = [f1,f2] ∧ f1.y = a ∧ f2.y = b := by
 cases L with
 | nil => cases h
 | cons f1 L =>
   cases L with
   | nil => cases h
   | cons f2 L =>
     cases L with
     | nil => simp at h; exact ⟨f1,f2,rfl,h.1,h.2⟩
     | cons f3 L => cases h
end Go.Proofs.YtjjnmefihdjglaaGreat
