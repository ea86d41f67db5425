import Derived.Test.YtjjnmefihdjglaaGreatKJ
import Derived.Test.YtjjnmefihdjglaaGreatKK
set_option maxRecDepth 100000
set_option maxHeartbeats 64000000
set_option linter.all false
namespace Go.Proofs.YtjjnmefihdjglaaGreat
open Go.RowKit
structure FamD where
 nm : ByteArray
 k : Int
 un : ByteArray
 he : ByteArray
 pa : Option Addr
 pc : Nat
 ps : List PtD
def FamD.cs (f : FamD) : List Value := [.string f.nm,.int .i64 f.k,.string f.un,.string f.he,.slice f.pa f.ps.length f.pc]
def FamD.v (f : FamD) : Value := .agg #[.string f.nm,.int .i64 f.k,.string f.un,.string f.he,.slice f.pa f.ps.length f.pc]
def FamD.zero : FamD := ⟨⟨#[]⟩,0,⟨#[]⟩,⟨#[]⟩,none,0,[]⟩
structure FamY where
 nm : ByteArray
 k : Int
 un : ByteArray
 he : ByteArray
 ps : List PtY
def FamD.y (f : FamD) : FamY := ⟨f.nm,f.k,f.un,f.he,f.ps.map PtD.y⟩
theorem FamD.y_len (f : FamD) : f.y.ps.length = f.ps.length := by simp [FamD.y]
def FamsAt (b o : Nat) (l : List FamD) (w : World) : Prop :=
 ∀ i (h : i < l.length),w.cell? ⟨b,o + i * 5,none⟩ = some (.string l[i].nm) ∧ w.cell? ⟨b,o + i * 5 + 1,none⟩ = some (.int .i64 l[i].k) ∧ w.cell? ⟨b,o + i * 5 + 2,none⟩ = some (.string l[i].un) ∧
  w.cell? ⟨b,o + i * 5 + 3,none⟩ = some (.string l[i].he) ∧ w.cell? ⟨b,o + i * 5 + 4,none⟩ = some (.slice l[i].pa l[i].ps.length l[i].pc)
def FamsA (a : Option Addr) (l : List FamD) (w : World) : Prop :=
 (0 < l.length → ∃ b o,a = some ⟨b,o,none⟩ ∧ b < w.heap.size ∧ FamsAt b o l w) ∧ ∀ f ∈ l,PtsA f.pa f.ps w
theorem FamsAt.ext {b o : Nat} {l : List FamD} {w w' : World} (h : FamsAt b o l w) (hb : b < w.heap.size) (x : Ext w w') : FamsAt b o l w' := by
 intro i hi
 obtain ⟨c0,c1,c2,c3,c4⟩ := h i hi
 exact ⟨(Ext.cell x hb).trans c0,(Ext.cell x hb).trans c1,(Ext.cell x hb).trans c2,(Ext.cell x hb).trans c3,(Ext.cell x hb).trans c4⟩
theorem FamsA.ext {a : Option Addr} {l : List FamD} {w w' : World} (h : FamsA a l w) (x : Ext w w') : FamsA a l w' := by
 refine ⟨fun h0 => ?_,fun f hf => (h.2 f hf).ext x⟩
 obtain ⟨b,o,e,hb,hA⟩ := h.1 h0
 exact ⟨b,o,e,Nat.lt_of_lt_of_le hb x.size,hA.ext hb x⟩
theorem FamsA.nil (a : Option Addr) (w : World) : FamsA a [] w := ⟨fun h => absurd h (by simp),fun f hf => by cases hf⟩
theorem FamsA.from {b o : Nat} {l : List FamD} {w : World} (h : FamsA (some ⟨b,o,none⟩) l w) (k : Nat) : FamsA (some ⟨b,o + k * 5,none⟩) (l.drop k) w := by
 refine ⟨fun h0 => ?_,fun p hp => h.2 p (List.mem_of_mem_drop hp)⟩
 rw [List.length_drop] at h0
 obtain ⟨b',o',e,hb,hP⟩ := h.1 (by omega)
 injection e with e
 injection e with e1 e2
 subst e1 e2
 refine ⟨b,o + k * 5,rfl,hb,fun i hi => ?_⟩
 rw [List.length_drop] at hi
 have := hP (k + i) (by omega)
 have ee : (l.drop k)[i]'(by rw [List.length_drop]; exact hi) = l[k + i] := by simp
 rw [ee,show o + k * 5 + i * 5 = o + (k + i) * 5 from by rw [Nat.add_mul]; omega]
 exact this
theorem FamsA.upto {a : Option Addr} {l : List FamD} {w : World} (h : FamsA a l w) (k : Nat) : FamsA a (l.take k) w := by
 refine ⟨fun h0 => ?_,fun p hp => h.2 p (List.mem_of_mem_take hp)⟩
 rw [List.length_take] at h0
 obtain ⟨b,o,rfl,hb,hP⟩ := h.1 (by omega)
 refine ⟨b,o,rfl,hb,fun i hi => ?_⟩
 rw [List.length_take] at hi
 have := hP i (by omega)
 have ee : (l.take k)[i]'(by rw [List.length_take]; exact hi) = l[i] := by simp
 rw [ee]
 exact this
theorem FamsA.src {ad : Addr} {l : List FamD} {w : World} (h : FamsA (some ad) l w) : ∀ i,i < l.length → ∀ j,j < 5 → w.cell? (ad.add (i * 5 + j)) = (FamD.cs (l[i]?.getD FamD.zero))[j]? := by
 intro i hi j hj
 obtain ⟨b,o,e,hb,hL⟩ := h.1 (by omega)
 injection e with e
 subst e
 have q := hL i hi
 rw [Addr.add_lit,show l[i]?.getD FamD.zero = l[i] from by rw [List.getElem?_eq_getElem hi]; rfl]
 obtain ⟨q0,q1,q2,q3,q4⟩ := q
 match j,hj with
 | 0,_ => exact q0
 | 1,_ => exact q1
 | 2,_ => exact q2
 | 3,_ => exact q3
 | 4,_ => exact q4
theorem famC_one (f : FamD) : ∀ u ∈ FamD.cs f,u.oneCell' = true := by
 intro u hu
 simp [FamD.cs] at hu
 rcases hu with rfl | rfl | rfl | rfl | rfl <;> rfl
theorem OwnR.fams {base n : Nat} {v : Value} {L : List FamD} {W : World} (h : OwnR 5 35 FamD.cs base v n (fun i => L[i]?.getD FamD.zero) W) (hn : n = L.length) (hp : ∀ f ∈ L,PtsA f.pa f.ps W) : ∃ a c,v = .slice a L.length c ∧ FamsA a L W := by
 subst hn
 obtain ⟨a,c,rfl⟩ := h.form
 refine ⟨a,c,rfl,fun h0 => ?_,hp⟩
 obtain ⟨g,cap,e,hg,hr⟩ := h.row h0
 injection e with e _ _
 subst e
 refine ⟨g,0,rfl,hr.lt,fun i hi => ?_⟩
 have e : L[i]?.getD FamD.zero = L[i] := by simp [hi]
 have C := fun j v hj hv => hr.cell i j v hi hj (by rw [e]; exact hv)
 rw [Nat.zero_add]
 exact ⟨C 0 _ (by decide) rfl,C 1 _ (by decide) rfl,C 2 _ (by decide) rfl,C 3 _ (by decide) rfl,C 4 _ (by decide) rfl⟩
def cmpFN (x y : FamD) : Int := cmpS x.nm y.nm
theorem cmpFN_cmp : Cmp cmpFN := cmpS_cmp.pull (fun f : FamD => f.nm)
structure FamY.Sm (f : FamY) : Prop where
 n : f.nm.size ≤ 1000
 u : f.un.size ≤ 1000
 h : f.he.size ≤ 1000
 p : f.ps.length ≤ 1000
 l : ∀ q ∈ f.ps,q.1.l.length ≤ 1000
theorem FamY.Sm.pl {f : FamD} (h : f.y.Sm) : f.ps.length ≤ 1000 := by have := h.p; rwa [FamD.y_len] at this
theorem FamY.Sm.ll {f : FamD} (h : f.y.Sm) : ∀ p ∈ f.ps,p.l.length ≤ 1000 := fun p hp => h.l p.y (List.mem_map_of_mem hp)
def goodF (f : FamY) : Bool := goodFamY f.nm f.k f.un f.he f.ps
theorem wrongF_any (f : FamD) (w : World) (hp : PtsA f.pa f.ps w) (hs : f.y.Sm) :
  Calls Tryz.prog 45 #[f.v] w fun e w' => e = .returned (.bool (!(goodF f.y))) ∧ Ext w w' := by
 have G := fun W (x : Ext w W) => famGood_any f.nm f.k f.un f.he f.pa f.pc f.ps W (by have := hs.pl; omega) (hp.ext x) (by have := hs.n; have : f.nm.size ≤ 1000 := this; omega) (by have := hs.u; have : f.un.size ≤ 1000 := this; omega) (by have := hs.h; have : f.he.size ≤ 1000 := this; omega)
 have e : goodFam f.nm f.k f.un f.he f.ps = goodF f.y := goodFam_y _ _ _ _ _
 rw [e] at G
 clear e
 generalize goodF f.y = g at *
 unfold FamD.v
 have hx : Ext w (w.alloc (.cells #[.string f.nm,.int .i64 f.k,.string f.un,.string f.he,.slice f.pa f.ps.length f.pc] 35)) := (Ext.refl _).alloc _
 clear hp
 go_enter Tryz.func45,Tryz.ntmps45
 go_wp2_with fail
 (with_reducible refine (G _ hx).mono ?_)
 rintro e w1 ⟨rfl,x1⟩
 go_wp2_with fail
 go_ret
 exact ⟨rfl,hx.trans x1⟩
def badAtF : Nat → List FamY → Int
 | _,[] => -1
 | i,f :: l => if goodF f then badAtF (i + 1) l else i
theorem badAtF_neg : ∀ (l : List FamY) (i : Nat),decide (badAtF i l ≥ 0) = !(l.all goodF)
 | [],i => by simp [badAtF]
 | f :: l,i => by
   unfold badAtF
   cases h : goodF f
   ·simp [h]
   ·simp only [if_true,List.all_cons,h,Bool.true_and]
    exact badAtF_neg l (i + 1)
theorem indexBadF_any (a : Option Addr) (c : Nat) (l : List FamD) (w : World) (hl : l.length ≤ 1000000) (hA : FamsA a l w) (hs : ∀ f ∈ l,f.y.Sm) :
  Calls Tryz.prog 80 #[.slice a l.length c,.func (.func 45) #[] #[]] w fun e w' => e = .returned (.int .i64 (badAtF 0 (l.map FamD.y))) ∧ Ext w w' := by
 obtain ⟨R,hR⟩ : ∃ R,badAtF 0 (l.map FamD.y) = R := ⟨_,rfl⟩
 rw [hR]
 go_enter Tryz.func80,Tryz.ntmps80
 go_wp2_with fail
 go_loopw [8] (fun i wr => ∃ j : Nat,i = .int .i64 j ∧ j ≤ l.length ∧ Hid (badAtF j ((l.drop j).map FamD.y) = R) ∧ Ext w wr) (fun i _ => l.length - (intOf i).toNat)
 case atStart => exact ⟨0,rfl,Nat.zero_le _,Lib.hid hR,Ext.refl _⟩
 case round =>
  obtain ⟨j,rfl,hk,hg,xr⟩ := hrel
  clear hR
  by_cases hlt : j < l.length
  ·have hd := hg.out
   rw [List.drop_eq_getElem_cons hlt,List.map_cons] at hd
   unfold badAtF at hd
   obtain ⟨b1,o1,rfl,hb1,hL⟩ := hA.1 (by omega)
   have ok := (hA.2 _ (List.getElem_mem hlt)).ext xr
   have sm := hs _ (List.getElem_mem hlt)
   obtain ⟨p0,p1,p2,p3,p4⟩ := hL j hlt
   generalize l[j] = p at *
   have C := wrongF_any p wr ok sm
   obtain ⟨g,hg2⟩ : ∃ g,goodF p.y = g := ⟨_,rfl⟩
   rw [hg2] at C hd
   unfold FamD.v at C
   replace p0 := (Ext.cell xr hb1).trans p0
   replace p1 := (Ext.cell xr hb1).trans p1
   replace p2 := (Ext.cell xr hb1).trans p2
   replace p3 := (Ext.cell xr hb1).trans p3
   replace p4 := (Ext.cell xr hb1).trans p4
   clear hL ok hA hg hg2 hs sm
   cases g
   ·rw [if_neg (by decide)] at hd
    rw [Bool.not_false] at C
    replace hd := Lib.hid hd
    go_wp2_with fail
    (with_reducible refine C.mono ?_)
    rintro e w1 ⟨rfl,x1⟩
    clear p0 p1 p2 p3 p4
    go_wp2_with fail
    go_ret
    exact ⟨retI hd.out,xr.trans x1⟩
   ·rw [if_pos rfl] at hd
    rw [Bool.not_true] at C
    replace hd := Lib.hid hd
    go_wp2_with fail
    (with_reducible refine C.mono ?_)
    rintro e w1 ⟨rfl,x1⟩
    clear p0 p1 p2 p3 p4
    go_wp2_with fail
    go_roundw
    case rel => exact ⟨j + 1,rfl,hlt,hd,xr.trans x1⟩
    case measure => simp only [intOf]; omega
  ·have hd := hg.out
   rw [show l.drop j = [] from List.drop_eq_nil_of_le (by omega)] at hd
   replace hd : Hid ((-1 : Int) = R) := Lib.hid hd
   have hk3 : l.length ≤ j := by omega
   clear hk hg hA hlt hs
   go_wp2_with fail
   go_ret
   exact ⟨retI hd.out,xr⟩
theorem anyBadF_any (a : Option Addr) (c : Nat) (l : List FamD) (w : World) (hl : l.length ≤ 1000000) (hA : FamsA a l w) (hs : ∀ f ∈ l,f.y.Sm) :
  Calls Tryz.prog 47 #[.slice a l.length c,.func (.func 45) #[] #[]] w fun e w' => e = .returned (.bool (!((l.map FamD.y).all goodF))) ∧ Ext w w' := by
 have C := fun W (x : Ext w W) => indexBadF_any a c l W hl (hA.ext x) hs
 rw [← badAtF_neg _ 0]
 generalize badAtF 0 (l.map FamD.y) = i at *
 clear hA hs
 go_enter Tryz.func47,Tryz.ntmps47
 go_wp2_with fail
 (with_reducible refine (C _ (Ext.refl _)).mono ?_)
 rintro e w1 ⟨rfl,x1⟩
 go_wp2_with fail
 go_ret
 exact ⟨rfl,x1⟩
def risesN : List ByteArray → Bool
 | [] => true
 | [_] => true
 | x :: y :: l => decide (cmpS x y < 0) && risesN (y :: l)
theorem risesN_iff : ∀ (L : List ByteArray),risesN L = true ↔ Ris cmpS L
 | [] => by simp [risesN,Ris]
 | [x] => by simp [risesN,Ris]
 | x :: y :: L => by
   rw [ris_cons2 cmpS_cmp,← risesN_iff (y :: L),risesN]
   simp
theorem risesF_any (a : Option Addr) (c : Nat) (l : List FamD) (w : World) (hl : l.length ≤ 1000000) (hA : FamsA a l w) :
  Calls Tryz.prog 42 #[.slice a l.length c] w fun e w' => e = .returned (.bool (risesN (l.map FamD.nm))) ∧ Ext w w' := by
 obtain ⟨R,hR⟩ : ∃ R,risesN (l.map FamD.nm) = R := ⟨_,rfl⟩
 rw [hR]
 go_enter Tryz.func42,Tryz.ntmps42
 go_wp2_with fail
 go_loopw [3] (fun i wr => ∃ k : Nat,i = .int .i64 ((k + 1 : Nat) : Int) ∧ (k + 1 ≤ l.length ∨ l.length = 0 ∧ k = 0) ∧ Hid (risesN ((l.drop k).map FamD.nm) = R) ∧ Ext w wr) (fun i _ => l.length - (intOf i).toNat)
 case atStart => exact ⟨0,rfl,by omega,Lib.hid hR,Ext.refl _⟩
 case round =>
  obtain ⟨k,rfl,hk,hg,xr⟩ := hrel
  clear hR
  by_cases hlt : k + 1 < l.length
  ·have hd := hg.out
   rw [List.drop_eq_getElem_cons (show k < l.length from by omega),List.drop_eq_getElem_cons hlt,List.map_cons,List.map_cons,risesN] at hd
   obtain ⟨b,o,rfl,hb,hL⟩ := hA.1 (by omega)
   obtain ⟨p0,_,_,_,_⟩ := hL k (by omega)
   obtain ⟨q0,_,_,_,_⟩ := hL (k + 1) hlt
   have hd2 : Hid (risesN ((l.drop (k + 1)).map FamD.nm) = risesN ((l[k + 1]).nm :: (l.drop (k + 1 + 1)).map FamD.nm)) := Lib.hid (by rw [List.drop_eq_getElem_cons hlt,List.map_cons])
   generalize l[k].nm = p at *
   generalize l[k + 1].nm = q at *
   replace p0 := (Ext.cell xr hb).trans p0
   replace q0 := (Ext.cell xr hb).trans q0
   have e1 : IntKind.i64.wrap (k : Int) = (k : Int) := IntWalk.i64_in _ (by omega)
   have e2 : (k : Int) + 1 < (l.length : Int) := by omega
   have e3 : (0 : Int) ≤ (k : Int) + 1 := by omega
   have e4 : (k : Int) < (l.length : Int) := by omega
   clear hL hA hg
   by_cases h0 : cmpS p q < 0
   ·rw [decide_eq_true h0,Bool.true_and,← hd2.out] at hd
    replace hd := Lib.hid hd
    have nl : Op.bytesLess p.toList q.toList = true := by rw [less_is,decide_eq_true h0]
    clear hd2
    go_wp2_with fail
    go_region
    all_goals
     go_wp2_with fail
     go_roundw
     case rel => exact ⟨k + 1,by first | rfl | (congr 1),.inl hlt,hd,by first | exact xr | exact xr.drew⟩
     case measure => simp only [intOf]; omega
   ·rw [decide_eq_false h0,Bool.false_and] at hd
    replace hd := Lib.hid hd
    have nl : Op.bytesLess p.toList q.toList = false := by rw [less_is,decide_eq_false h0]
    clear hd2
    go_wp2_with fail
    go_region
    all_goals
     go_wp2_with fail
     go_ret
     exact ⟨retB hd.out,by first | exact xr | exact xr.drew⟩
  ·have hd := hg.out
   have hr : risesN ((l.drop k).map FamD.nm) = true := by
    cases h : l.drop k with
    | nil => rfl
    | cons x m =>
      cases m with
      | nil => rfl
      | cons y m => exact absurd (congrArg List.length h) (by rw [List.length_drop]; simp; omega)
   rw [hr] at hd
   replace hd := Lib.hid hd
   have e2 : ¬ (k : Int) + 1 < (l.length : Int) := by omega
   clear hg hr hA
   go_wp2_with fail
   go_ret
   exact ⟨retB hd.out,xr⟩
def ptsN : List FamY → Nat
 | [] => 0
 | f :: l => f.ps.length + ptsN l
theorem ptsN_append : ∀ (l m : List FamY),ptsN (l ++ m) = ptsN l + ptsN m
 | [],m => by simp [ptsN]
 | f :: l,m => by rw [List.cons_append,ptsN,ptsN,ptsN_append l m]; omega
theorem ptsN_le : ∀ (l : List FamY),(∀ f ∈ l,f.Sm) → ptsN l ≤ 1000 * l.length
 | [],_ => Nat.le_refl _
 | f :: l,h => by
   have h1 := (h f (by simp)).p
   have h2 := ptsN_le l (fun g hg => h g (by simp [hg]))
   rw [ptsN,List.length_cons]
   omega
def BatIn (b : Nat) (tn : ByteArray) (v : Value) (w : World) : Prop := w.heap[b]? = some (.cells #[.string tn,v] 27 (0,0))
theorem BatIn.ext {b : Nat} {tn : ByteArray} {v : Value} {w w' : World} (h : BatIn b tn v w) (x : Ext w w') : BatIn b tn v w' := (x.heap (Array.getElem?_eq_some_iff.1 h).1).trans h
theorem BatIn.cells {b : Nat} {tn : ByteArray} {v : Value} {w : World} (h : BatIn b tn v w) : w.cell? ⟨b,0,none⟩ = some (.string tn) ∧ w.cell? ⟨b,1,none⟩ = some v := by
 refine ⟨?_,?_⟩ <;> (rw [Lib.cell_of_heap h]; rfl)
theorem BatIn.lt {b : Nat} {tn : ByteArray} {v : Value} {w : World} (h : BatIn b tn v w) : b < w.heap.size := (Array.getElem?_eq_some_iff.1 h).1
theorem Points_any (tn : ByteArray) (a : Option Addr) (c : Nat) (l : List FamD) (w : World) (hl : l.length ≤ 1000000) (hA : FamsA a l w) (hs : ∀ f ∈ l,f.y.Sm) :
  Calls Tryz.prog 22 #[.agg #[.string tn,.slice a l.length c]] w fun e w' => e = .returned (.int .i64 (ptsN (l.map FamD.y) : Nat)) ∧ Ext w w' := by
 obtain ⟨W,hW⟩ : ∃ W,w.alloc (.cells #[.string tn,.slice a l.length c] 27) = W := ⟨_,rfl⟩
 have x1 : Ext w W := by rw [← hW]; exact (Ext.refl w).alloc _
 have g1 : BatIn w.heap.size tn (.slice a l.length c) W := by rw [← hW]; exact heap_last _ _
 replace hW := Lib.hid hW
 obtain ⟨c0,c1⟩ := g1.cells
 go_enter Tryz.func22,Tryz.ntmps22
 go_wp2_with fail
 rw [hW.out]
 clear c0 c1 g1 hW
 replace hA := hA.ext x1
 go_loopw [3,9] (fun s i wr => ∃ k : Nat,i = .int .i64 k ∧ k ≤ l.length ∧ s = .int .i64 (ptsN ((l.map FamD.y).take k) : Nat) ∧ Ext W wr) (fun _ i _ => l.length - (intOf i).toNat)
 case atStart => exact ⟨0,rfl,Nat.zero_le _,rfl,Ext.refl _⟩
 case round =>
  obtain ⟨k,rfl,hk,rfl,xr⟩ := hrel
  by_cases hlt : k < l.length
  ·obtain ⟨b,o,rfl,hb,hL⟩ := hA.1 (by omega)
   obtain ⟨p0,p1,p2,p3,p4⟩ := hL k hlt
   have hN : Hid (ptsN ((l.map FamD.y).take (k + 1)) = ptsN ((l.map FamD.y).take k) + l[k].ps.length) := Lib.hid (by
    rw [List.take_add_one,List.getElem?_map,List.getElem?_eq_getElem hlt,Option.map_some,Option.toList_some,ptsN_append]
    simp [ptsN,FamD.y_len])
   have hB1 : ptsN ((l.map FamD.y).take k) ≤ 1000 * k := by
    have := ptsN_le ((l.map FamD.y).take k) (fun f hf => by obtain ⟨g,hg,rfl⟩ := List.mem_map.1 (List.mem_of_mem_take hf); exact hs g hg)
    rw [List.length_take,List.length_map] at this
    omega
   have hB2 : l[k].ps.length ≤ 1000 := (hs _ (List.getElem_mem hlt)).pl
   generalize l[k] = p at *
   obtain ⟨n,hn⟩ : ∃ n,ptsN ((l.map FamD.y).take k) = n := ⟨_,rfl⟩
   rw [hn] at hN hB1 ⊢
   replace p0 := (Ext.cell xr hb).trans p0
   replace p1 := (Ext.cell xr hb).trans p1
   replace p2 := (Ext.cell xr hb).trans p2
   replace p3 := (Ext.cell xr hb).trans p3
   replace p4 := (Ext.cell xr hb).trans p4
   have e1 : IntKind.i64.wrap ((n : Int) + (p.ps.length : Int)) = (n : Int) + (p.ps.length : Int) := IntWalk.i64_in _ (by omega)
   clear hL hA hs hn
   go_wp2_with fail
   go_roundw
   case rel => exact ⟨k + 1,rfl,hlt,by rw [hN.out]; rfl,xr.alloc _⟩
   case measure => simp only [intOf]; omega
  ·obtain rfl : k = l.length := by omega
   rw [List.take_of_length_le (by simp)]
   clear hA hs
   go_wp2_with fail
   go_ret
   exact ⟨rfl,x1.trans xr⟩
def tenC (c : Nat) : Bool := decide (97 ≤ c ∧ c ≤ 122) || (decide (48 ≤ c ∧ c ≤ 57) || decide (c = 45))
def tenB (s : ByteArray) : Bool := (bs s).all tenC && (decide (0 < s.size) && decide (s.size ≤ 16))
theorem Tenant_any (s : ByteArray) (w : World) (hs : s.size ≤ 9223372036854775807) :
  Calls Tryz.prog 24 #[.string s] w fun e w' => e = .returned (.bool (tenB s)) ∧ Ext w w' := by
 obtain ⟨R,hR⟩ : ∃ R,tenB s = R := ⟨_,rfl⟩
 rw [hR]
 unfold tenB at hR
 replace hR := Lib.hid hR
 go_enter Tryz.func24,Tryz.ntmps24
 go_wp2_with fail
 go_loopw [7] (fun i wr => ∃ k : Nat,i = .int .i64 k ∧ k ≤ s.size ∧ Hid (((bs s).drop k).all tenC = (bs s).all tenC) ∧ wr = w) (fun i _ => s.size - (intOf i).toNat)
 case atStart => exact ⟨0,rfl,Nat.zero_le _,Lib.hid rfl,rfl⟩
 case round =>
  obtain ⟨k,rfl,hk,hz,rfl⟩ := hrel
  by_cases hlt : k < s.size
  ·have hd := hz.out
   rw [drop_bs s k hlt,List.all_cons] at hd
   clear hz
   obtain ⟨c,hc⟩ : ∃ c,s[k].toNat = c := ⟨_,rfl⟩
   rw [hc] at hd
   by_cases h1 : c < 97
   ·have i1 : (c : Int) < 97 := by omega
    by_cases h2 : c < 48
    ·have i2 : (c : Int) < 48 := by omega
     by_cases h3 : c = 45
     ·have e2 : ((s[k].toNat : Int) == 45) = true := by rw [hc,h3]; rfl
      rw [show tenC c = true from by unfold tenC; simp; omega,Bool.true_and] at hd
      replace hd := Lib.hid hd
      replace hc := Lib.hid hc
      rw [← hc.out] at i1 i2
      clear h1 h2 h3
      go_wp2_with fail
      go_roundw
      case rel => exact ⟨k + 1,rfl,hlt,hd,by first | trivial | rfl⟩
      case measure => simp only [intOf]; omega
     ·have e2 : ((s[k].toNat : Int) == 45) = false := by rw [hc]; simp; omega
      rw [show tenC c = false from by unfold tenC; simp; omega,Bool.false_and] at hd
      have HV : Hid (R = false) := Lib.hid (by rw [← hR.out,← hd,Bool.false_and])
      replace hc := Lib.hid hc
      rw [← hc.out] at i1 i2
      clear hd hR h1 h2 h3
      go_wp2_with fail
      go_ret
      exact ⟨retB HV.out.symm,Ext.refl _⟩
    ·have i2 : ¬ (c : Int) < 48 := by omega
     by_cases h3 : c ≤ 57
     ·have i3 : ¬ (c : Int) > 57 := by omega
      rw [show tenC c = true from by unfold tenC; simp; omega,Bool.true_and] at hd
      replace hd := Lib.hid hd
      replace hc := Lib.hid hc
      rw [← hc.out] at i1 i2 i3
      clear h1 h2 h3
      go_wp2_with fail
      go_roundw
      case rel => exact ⟨k + 1,rfl,hlt,hd,by first | trivial | rfl⟩
      case measure => simp only [intOf]; omega
     ·have i3 : (c : Int) > 57 := by omega
      have e2 : ((s[k].toNat : Int) == 45) = false := by rw [hc]; simp; omega
      rw [show tenC c = false from by unfold tenC; simp; omega,Bool.false_and] at hd
      have HV : Hid (R = false) := Lib.hid (by rw [← hR.out,← hd,Bool.false_and])
      replace hc := Lib.hid hc
      rw [← hc.out] at i1 i2 i3
      clear hd hR h1 h2 h3
      go_wp2_with fail
      go_ret
      exact ⟨retB HV.out.symm,Ext.refl _⟩
   ·have i1 : ¬ (c : Int) < 97 := by omega
    by_cases h2 : c ≤ 122
    ·have i2 : ¬ (c : Int) > 122 := by omega
     rw [show tenC c = true from by unfold tenC; simp; omega,Bool.true_and] at hd
     replace hd := Lib.hid hd
     replace hc := Lib.hid hc
     rw [← hc.out] at i1 i2
     clear h1 h2
     go_wp2_with fail
     go_roundw
     case rel => exact ⟨k + 1,rfl,hlt,hd,by first | trivial | rfl⟩
     case measure => simp only [intOf]; omega
    ·have i2 : (c : Int) > 122 := by omega
     have i3 : ¬ (c : Int) < 48 := by omega
     have i4 : (c : Int) > 57 := by omega
     have e2 : ((s[k].toNat : Int) == 45) = false := by rw [hc]; simp; omega
     rw [show tenC c = false from by unfold tenC; simp; omega,Bool.false_and] at hd
     have HV : Hid (R = false) := Lib.hid (by rw [← hR.out,← hd,Bool.false_and])
     replace hc := Lib.hid hc
     rw [← hc.out] at i1 i2 i3 i4
     clear hd hR h1 h2
     go_wp2_with fail
     go_ret
     exact ⟨retB HV.out.symm,Ext.refl _⟩
  ·have hd := hz.out
   rw [drop_bs_nil s k (by omega)] at hd
   have hr := hR.out
   rw [← hd,show List.all [] tenC = true from rfl,Bool.true_and] at hr
   clear hR hd hz
   have hk2 : s.size ≤ k := by omega
   by_cases h0 : 0 < s.size
   ·rw [decide_eq_true h0,Bool.true_and] at hr
    have e0 : s.toList.isEmpty = false := by rw [isEmpty_of,decide_eq_false (by omega)]
    have hr2 : Hid (decide ((s.size : Int) ≤ 16) = R) := Lib.hid (by rw [← hr]; exact decide_eq_decide.2 (by omega))
    clear hk hlt hr
    go_wp2_with fail
    go_ret
    exact ⟨retB hr2.out,Ext.refl _⟩
   ·rw [decide_eq_false h0,Bool.false_and] at hr
    have e0 : s.toList.isEmpty = true := by rw [isEmpty_of,decide_eq_true (by omega)]
    replace hr := Lib.hid hr
    clear hk hlt h0
    go_wp2_with fail
    go_ret
    exact ⟨retB hr.out,Ext.refl _⟩
def checkB (tn : ByteArray) (L : List FamY) : Int :=
 if tenB tn = true ∧ L.all goodF = true ∧ risesN (L.map FamY.nm) = true then (if L.length ≤ 30 ∧ ptsN L ≤ 120 then 0 else 14) else 19
theorem Check_any (tn : ByteArray) (a : Option Addr) (c : Nat) (l : List FamD) (w : World) (hl : l.length ≤ 1000000) (ht : tn.size ≤ 1000000) (hA : FamsA a l w) (hs : ∀ f ∈ l,f.y.Sm) :
  Calls Tryz.prog 21 #[.agg #[.string tn,.slice a l.length c]] w fun e w' => e = .returned (.int .i64 (checkB tn (l.map FamD.y))) ∧ Ext w w' := by
 have T := fun W => Tenant_any tn W (by omega)
 obtain ⟨W,hW⟩ : ∃ W,w.alloc (.cells #[.string tn,.slice a l.length c] 27) = W := ⟨_,rfl⟩
 have x1 : Ext w W := by rw [← hW]; exact (Ext.refl w).alloc _
 have g1 : BatIn w.heap.size tn (.slice a l.length c) W := by rw [← hW]; exact heap_last _ _
 replace hW := Lib.hid hW
 have P := fun W (x : Ext w W) => Points_any tn a c l W hl (hA.ext x) hs
 have B := fun W (x : Ext w W) => anyBadF_any a c l W hl (hA.ext x) hs
 have RI := fun W (x : Ext w W) => risesF_any a c l W hl (hA.ext x)
 obtain ⟨R,hR⟩ : ∃ R,checkB tn (l.map FamD.y) = R := ⟨_,rfl⟩
 rw [hR]
 unfold checkB at hR
 rw [List.length_map,List.map_map,show (FamY.nm ∘ FamD.y) = FamD.nm from rfl] at hR
 have hpb : ptsN (l.map FamD.y) ≤ 1000 * l.length := by
  have := ptsN_le (l.map FamD.y) (fun f hf => by obtain ⟨g,hg,rfl⟩ := List.mem_map.1 hf; exact hs g hg)
  rwa [List.length_map] at this
 generalize (l.map FamD.y).all goodF = b2 at *
 generalize risesN (l.map FamD.nm) = b3 at *
 generalize ptsN (l.map FamD.y) = n at *
 generalize tenB tn = b1 at *
 generalize l.length = m at *
 clear hA hs
 obtain ⟨c0,c1⟩ := g1.cells
 go_enter Tryz.func21,Tryz.ntmps21
 cases b1
 ·rw [if_neg (by simp)] at hR
  replace hR := Lib.hid hR
  go_wp2_with fail
  rw [hW.out]
  (with_reducible refine (T _).mono ?_)
  rintro e w1 ⟨rfl,x2⟩
  go_wp2_with fail
  go_ret
  exact ⟨retI hR.out,x1.trans x2⟩
 cases b2
 ·rw [if_neg (by simp)] at hR
  replace hR := Lib.hid hR
  go_wp2_with fail
  rw [hW.out]
  (with_reducible refine (T _).mono ?_)
  rintro e w1 ⟨rfl,x2⟩
  replace g1 := g1.ext x2
  obtain ⟨c0,c1⟩ := g1.cells
  go_wp2_with fail
  (with_reducible refine (B _ (x1.trans x2)).mono ?_)
  rintro e w2 ⟨rfl,x3⟩
  go_wp2_with fail
  go_ret
  exact ⟨retI hR.out,(x1.trans x2).trans x3⟩
 cases b3
 ·rw [if_neg (by simp)] at hR
  replace hR := Lib.hid hR
  go_wp2_with fail
  rw [hW.out]
  (with_reducible refine (T _).mono ?_)
  rintro e w1 ⟨rfl,x2⟩
  replace g1 := g1.ext x2
  obtain ⟨c0,c1⟩ := g1.cells
  go_wp2_with fail
  (with_reducible refine (B _ (x1.trans x2)).mono ?_)
  rintro e w2 ⟨rfl,x3⟩
  replace g1 := g1.ext x3
  obtain ⟨c0,c1⟩ := g1.cells
  go_wp2_with fail
  (with_reducible refine (RI _ ((x1.trans x2).trans x3)).mono ?_)
  rintro e w3 ⟨rfl,x4⟩
  go_wp2_with fail
  go_ret
  exact ⟨retI hR.out,((x1.trans x2).trans x3).trans x4⟩
 rw [if_pos ⟨rfl,rfl,rfl⟩] at hR
 by_cases hm : m ≤ 30
 ·by_cases hn : n ≤ 120
  ·rw [if_pos ⟨hm,hn⟩] at hR
   replace hR := Lib.hid hR
   have i1 : ¬ (m : Int) > 30 := by omega
   have i2 : ¬ (n : Int) > 120 := by omega
   go_wp2_with fail
   rw [hW.out]
   (with_reducible refine (T _).mono ?_)
   rintro e w1 ⟨rfl,x2⟩
   replace g1 := g1.ext x2
   obtain ⟨c0,c1⟩ := g1.cells
   go_wp2_with fail
   (with_reducible refine (B _ (x1.trans x2)).mono ?_)
   rintro e w2 ⟨rfl,x3⟩
   replace g1 := g1.ext x3
   obtain ⟨c0,c1⟩ := g1.cells
   go_wp2_with fail
   (with_reducible refine (RI _ ((x1.trans x2).trans x3)).mono ?_)
   rintro e w3 ⟨rfl,x4⟩
   replace g1 := g1.ext x4
   obtain ⟨c0,c1⟩ := g1.cells
   go_wp2_with fail
   (with_reducible refine (P _ (((x1.trans x2).trans x3).trans x4)).mono ?_)
   rintro e w4 ⟨rfl,x5⟩
   go_wp2_with fail
   go_ret
   exact ⟨retI hR.out,(((x1.trans x2).trans x3).trans x4).trans x5⟩
  ·rw [if_neg (by omega)] at hR
   replace hR := Lib.hid hR
   have i1 : ¬ (m : Int) > 30 := by omega
   have i2 : (n : Int) > 120 := by omega
   go_wp2_with fail
   rw [hW.out]
   (with_reducible refine (T _).mono ?_)
   rintro e w1 ⟨rfl,x2⟩
   replace g1 := g1.ext x2
   obtain ⟨c0,c1⟩ := g1.cells
   go_wp2_with fail
   (with_reducible refine (B _ (x1.trans x2)).mono ?_)
   rintro e w2 ⟨rfl,x3⟩
   replace g1 := g1.ext x3
   obtain ⟨c0,c1⟩ := g1.cells
   go_wp2_with fail
   (with_reducible refine (RI _ ((x1.trans x2).trans x3)).mono ?_)
   rintro e w3 ⟨rfl,x4⟩
   replace g1 := g1.ext x4
   obtain ⟨c0,c1⟩ := g1.cells
   go_wp2_with fail
   (with_reducible refine (P _ (((x1.trans x2).trans x3).trans x4)).mono ?_)
   rintro e w4 ⟨rfl,x5⟩
   go_wp2_with fail
   go_ret
   exact ⟨retI hR.out,(((x1.trans x2).trans x3).trans x4).trans x5⟩
 ·rw [if_neg (by omega)] at hR
  replace hR := Lib.hid hR
  have i1 : (m : Int) > 30 := by omega
  go_wp2_with fail
  rw [hW.out]
  (with_reducible refine (T _).mono ?_)
  rintro e w1 ⟨rfl,x2⟩
  replace g1 := g1.ext x2
  obtain ⟨c0,c1⟩ := g1.cells
  go_wp2_with fail
  (with_reducible refine (B _ (x1.trans x2)).mono ?_)
  rintro e w2 ⟨rfl,x3⟩
  replace g1 := g1.ext x3
  obtain ⟨c0,c1⟩ := g1.cells
  go_wp2_with fail
  (with_reducible refine (RI _ ((x1.trans x2).trans x3)).mono ?_)
  rintro e w3 ⟨rfl,x4⟩
  replace g1 := g1.ext x4
  obtain ⟨c0,c1⟩ := g1.cells
  go_wp2_with fail
  go_ret
  exact ⟨retI hR.out,((x1.trans x2).trans x3).trans x4⟩
theorem eq_is (a b : ByteArray) : (a.toList == b.toList) = decide (a = b) := by
 by_cases h : a = b
 ·subst h; simp
 ·rw [decide_eq_false h]
  have : ¬ a.toList = b.toList := fun e => h (tl_inj e)
  simpa using this
def sameF (x y : FamY) : Bool := headB x.nm x.k x.un x.he y.nm y.k y.un y.he && sameYs x.ps y.ps
def sameFs : List FamY → List FamY → Bool
 | [],[] => true
 | x :: l,y :: m => sameF x y && sameFs l m
 | _,_ => false
theorem sameF_refl (x : FamY) : sameF x x = true := by unfold sameF headB; rw [sameYs_refl]; simp
theorem sameFs_refl : ∀ l,sameFs l l = true
 | [] => rfl
 | x :: l => by rw [sameFs,sameF_refl,sameFs_refl l]; rfl
theorem sameFs_len : ∀ l m,sameFs l m = true → l.length = m.length
 | [],[],_ => rfl
 | x :: l,y :: m,h => by
   rw [sameFs,Bool.and_eq_true] at h
   simp [sameFs_len l m h.2]
 | [],_ :: _,h => by simp [sameFs] at h
 | _ :: _,[],h => by simp [sameFs] at h
end Go.Proofs.YtjjnmefihdjglaaGreat
namespace Go.Proofs.YtjjnmefihdjglaaGreat
open Go.ChangeShapes Go.WideShapes Go.ChangeAt Go.RowKit Go.Deep
theorem FamGot.ext0 {W : World} {nm : ByteArray} {k : Int} {un he : ByteArray} {A : Option Addr} {c : Nat} {l : List PtD} (h : FamGot W nm k un he A c l) : (l.length : Int) ≤ 9223372036854775807 := by
 have h1 := h.le
 have h2 := h.cm
 omega
theorem openFams {H : Type} {enc : TypeId × Value → H} {W : World} {fuel : Nat} {cs : List Value} {x : DataW H × List MemPlace}
  (hf : DataW.trod enc Tryz.prog W 0 (fun _ => true) true fuel 25 cs = some x) :
  ∃ (A : Option Addr) (c : Nat) (l : List FamD),cs = [.slice A l.length c] ∧ l.length ≤ c ∧ (c : Int) ≤ 9223372036854775807 ∧ FamsA A l W ∧ (∀ f ∈ l,FamGot W f.nm f.k f.un f.he f.pa f.pc f.ps) := by
 have e5 : Tryz.prog.cellsOf 35 = 5 := by kernel_rfl
 rcases open_slice Tryz.underlying25 hf with ⟨hcs,_⟩ | ⟨a,len,cap,m,n,D,Pl,hcs,_,hl,hm,hmm,_,hi⟩
 ·exact ⟨none,0,[],hcs,by simp,by simp,FamsA.nil _ _,fun p hp => by cases hp⟩
 ·unfold maxLen at hm
  simp only [if_true] at hmm
  have each : ∀ i,i < len → ∃ f : FamD,(∀ j,j < 5 → W.cell? ((a.add (i * 5)).add j) = ([.string f.nm,.int .i64 f.k,.string f.un,.string f.he,.slice f.pa f.ps.length f.pc] : List Value)[j]?) ∧ FamGot W f.nm f.k f.un f.he f.pa f.pc f.ps := by
   intro i hlt
   obtain ⟨cs',h1,h2⟩ := hi i (by omega)
   rw [e5] at h1
   obtain ⟨_,hlen,hcell⟩ := World.cells?_some h1
   match cs',hlen with
   | [c0,c1,c2,c3,c4],_ =>
     obtain ⟨nm,k,un,he,A,c,l,hp,h3⟩ := famCells h2
     refine ⟨⟨nm,k,un,he,A,c,l⟩,fun j hj => ?_,h3⟩
     dsimp only
     rw [← hp]
     exact hcell j hj
  have pick : ∃ f : Nat → FamD,∀ i,i < len → (∀ j,j < 5 → W.cell? ((a.add (i * 5)).add j) = ([.string (f i).nm,.int .i64 (f i).k,.string (f i).un,.string (f i).he,.slice (f i).pa (f i).ps.length (f i).pc] : List Value)[j]?) ∧ FamGot W (f i).nm (f i).k (f i).un (f i).he (f i).pa (f i).pc (f i).ps := by
   refine ⟨fun i => if h : i < len then Classical.choose (each i h) else FamD.zero,fun i hlt => ?_⟩
   simp only [hlt,dif_pos]
   exact Classical.choose_spec (each i hlt)
  obtain ⟨f,hf'⟩ := pick
  have hlen : ((List.range len).map f).length = len := by simp
  refine ⟨some a,cap,(List.range len).map f,by rw [hlen]; exact hcs,by rw [hlen]; exact hl,by omega,⟨fun h0 => ?_,fun p hp => ?_⟩,fun p hp => ?_⟩
  ·rw [hlen] at h0
   have g0 := (hf' 0 h0).1 0 (by decide)
   have hs : ((a.add (0 * 5)).add 0).spot = none := spot_of_cell g0
   have hb := World.block_lt_of_cell? W _ g0
   rw [block_add,block_add] at hb
   obtain ⟨b,o,sp⟩ := a
   have hsp : sp = none := by
    cases sp with
    | none => rfl
    | some z => simp [Addr.add] at hs
   subst hsp
   refine ⟨b,o,rfl,hb,fun i hlt => ?_⟩
   have hlt' : i < len := by simpa using hlt
   have e : ((List.range len).map f)[i] = f i := by simp
   rw [e]
   have C := fun j hj => (hf' i hlt').1 j hj
   simp only [Addr.add_lit] at C
   exact ⟨C 0 (by decide),C 1 (by decide),C 2 (by decide),C 3 (by decide),C 4 (by decide)⟩
  ·obtain ⟨i,hi1,rfl⟩ := List.mem_map.1 hp
   exact (hf' i (List.mem_range.1 hi1)).2.pts
  ·obtain ⟨i,hi1,rfl⟩ := List.mem_map.1 hp
   exact (hf' i (List.mem_range.1 hi1)).2
structure BatGot (W : World) (tn : ByteArray) (A : Option Addr) (c : Nat) (l : List FamD) : Prop where
 n1 : tn.size ≤ 9223372036854775807
 le : l.length ≤ c
 cm : (c : Int) ≤ 9223372036854775807
 fams : FamsA A l W
 got : ∀ f ∈ l,FamGot W f.nm f.k f.un f.he f.pa f.pc f.ps
theorem BatGot.len {W : World} {tn : ByteArray} {A : Option Addr} {c : Nat} {l : List FamD} (h : BatGot W tn A c l) : (l.length : Int) ≤ 9223372036854775807 := by
 have h1 := h.le
 have h2 := h.cm
 omega
theorem batCells {H : Type} {enc : TypeId × Value → H} {W : World} {fuel : Nat} {c0 c1 : Value} {x : DataW H × List MemPlace}
  (hf : DataW.trod enc Tryz.prog W 0 (fun _ => true) true fuel 27 [c0,c1] = some x) :
  ∃ (tn : ByteArray) (A : Option Addr) (c : Nat) (l : List FamD),[c0,c1] = [.string tn,.slice A l.length c] ∧ BatGot W tn A c l := by
 obtain ⟨xs,n,_,_,_,hlen,hall⟩ := DataW.trod_struct Tryz.underlying27 hf
 have hx : ∀ i,i < 2 → ∃ y,xs[i]? = some y := fun i hi => ⟨xs[i]'(by rw [hlen]; exact hi),List.getElem?_eq_getElem _⟩
 have e0 : Tryz.prog.cellsOf 9 = 1 := by kernel_rfl
 have e1 : Tryz.prog.cellsOf 25 = 1 := by kernel_rfl
 obtain ⟨y0,q0⟩ := hx 0 (by omega)
 obtain ⟨y1,q1⟩ := hx 1 (by omega)
 have h0 : DataW.trod enc Tryz.prog W 0 (fun _ => true) true n 9 ((([c0,c1] : List Value).drop 0).take (Tryz.prog.cellsOf 9)) = some y0 := (hall 0 _ rfl).trans q0
 have h1 : DataW.trod enc Tryz.prog W 0 (fun _ => true) true n 25 ((([c0,c1] : List Value).drop 1).take (Tryz.prog.cellsOf 25)) = some y1 := (hall 1 _ rfl).trans q1
 rw [e0] at h0
 rw [e1] at h1
 obtain ⟨tn,z0,_,w0⟩ := DataW.trod_string Tryz.underlying9 h0
 obtain ⟨A,c,l,z1,k1,k2,k3,k4⟩ := openFams h1
 simp only [List.drop,List.take,List.cons.injEq,and_true] at z0 z1
 subst z0 z1
 unfold maxLen at w0
 exact ⟨tn,A,c,l,rfl,⟨by omega,k1,k2,k3,k4⟩⟩
end Go.Proofs.YtjjnmefihdjglaaGreat
