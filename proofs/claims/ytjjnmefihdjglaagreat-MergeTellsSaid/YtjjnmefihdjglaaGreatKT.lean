import Derived.Test.YtjjnmefihdjglaaGreatKS
import Derived.Deep.DeepCutAuto
set_option maxRecDepth 100000
set_option maxHeartbeats 64000000
set_option linter.all false
namespace Go.Proofs.YtjjnmefihdjglaaGreat
open Go.RowKit
def nmAt (nm : ByteArray) : Nat → List FamY → Int
 | _,[] => -1
 | i,f :: l => if f.nm = nm then i else nmAt nm (i + 1) l
theorem nmAt_cases (nm : ByteArray) : ∀ (l : List FamY) (i : Nat),(nmAt nm i l = -1 ∧ ∀ f ∈ l,f.nm ≠ nm) ∨ ∃ j,∃ h : j < l.length,nmAt nm i l = ((i + j : Nat) : Int) ∧ l[j].nm = nm
 | [],i => .inl ⟨rfl,fun f hf => by cases hf⟩
 | f :: l,i => by
   unfold nmAt
   by_cases h : f.nm = nm
   ·rw [if_pos h]
    exact .inr ⟨0,by simp,by simp,h⟩
   ·rw [if_neg h]
    rcases nmAt_cases nm l (i + 1) with ⟨h1,h2⟩ | ⟨j,hj,h1,h2⟩
    ·refine .inl ⟨h1,fun g hg => ?_⟩
     rcases List.mem_cons.1 hg with rfl | hg
     ·exact h
     ·exact h2 g hg
    ·exact .inr ⟨j + 1,by simp; omega,by rw [h1]; congr 1; omega,by simpa using h2⟩
def StrIn (b : Nat) (s : ByteArray) (w : World) : Prop := w.heap[b]? = some (.cells #[.string s] 9 (0,0))
theorem StrIn.ext {b : Nat} {s : ByteArray} {w w' : World} (h : StrIn b s w) (x : Ext w w') : StrIn b s w' := (x.heap (Array.getElem?_eq_some_iff.1 h).1).trans h
theorem StrIn.cell {b : Nat} {s : ByteArray} {w : World} (h : StrIn b s w) : w.cell? ⟨b,0,none⟩ = some (.string s) := by rw [Lib.cell_of_heap h]; rfl
def JoinIn (b : Nat) (tn : ByteArray) (v : Value) (w : World) : Prop := w.heap[b]? = some (.cells #[.string tn,v] 72 (0,0))
theorem JoinIn.ext {b : Nat} {tn : ByteArray} {v : Value} {w w' : World} (h : JoinIn b tn v w) (x : Ext w w') : JoinIn b tn v w' := (x.heap (Array.getElem?_eq_some_iff.1 h).1).trans h
theorem JoinIn.cells {b : Nat} {tn : ByteArray} {v : Value} {w : World} (h : JoinIn b tn v w) : w.cell? ⟨b,0,none⟩ = some (.string tn) ∧ w.cell? ⟨b,1,none⟩ = some v := by
 refine ⟨?_,?_⟩ <;> (rw [Lib.cell_of_heap h]; rfl)
theorem JoinIn.lt {b : Nat} {tn : ByteArray} {v : Value} {w : World} (h : JoinIn b tn v w) : b < w.heap.size := (Array.getElem?_eq_some_iff.1 h).1
theorem JoinIn.free {b : Nat} {tn : ByteArray} {v : Value} {w : World} (h : JoinIn b tn v w) (o : Nat) : w.frozen? ⟨b,o,none⟩ = false := by
 unfold JoinIn at h
 unfold World.frozen?
 rw [h]; simp
theorem JoinIn.set1 {b : Nat} {tn : ByteArray} {v : Value} {w : World} (h : JoinIn b tn v w) (u : Value) : JoinIn b tn u (w.setCell ⟨b,1,none⟩ u) := by
 have e := heap_setCells b [u] 1 w _ _ _ h
 rw [show setL #[.string tn,v] 1 [u] = #[.string tn,u] from by simp [setL]] at e
 simp only [World.setCells] at e
 exact e
theorem JoinIn.grown {b : Nat} {tn : ByteArray} {v : Value} {w w' : World} {r : Option Nat} (h : JoinIn b tn v w) (g : w.grownBy w' r) (hr : ∀ x,r = some x → b ≠ x) : JoinIn b tn v w' :=
 (g.block b h.lt (fun e => hr _ e.symm rfl)).trans h
theorem JoinIn.setC {b : Nat} {tn : ByteArray} {v : Value} {w : World} (h : JoinIn b tn v w) (b' o : Nat) (u : Value) (hb : b ≠ b') : JoinIn b tn v (w.setCell ⟨b',o,none⟩ u) := by
 unfold JoinIn World.setCell
 simp only [Array.getElem?_modify]
 rw [if_neg (fun e => hb e.symm)]
 exact h
theorem isName_any (b : Nat) (nm : ByteArray) (f : FamD) (w : World) (h : StrIn b nm w) :
  Calls Tryz.prog 91 #[f.v,.pointer (some ⟨b,0,none⟩)] w fun e w' => e = .returned (.bool (decide (f.nm = nm))) ∧ Ext w w' := by
 have c0 := h.cell
 have hb : b < w.heap.size := (Array.getElem?_eq_some_iff.1 h).1
 have en := eq_is f.nm nm
 obtain ⟨D,hD⟩ : ∃ D,decide (f.nm = nm) = D := ⟨_,rfl⟩
 rw [hD] at en ⊢
 clear hD
 unfold FamD.v
 have hx : Ext w (w.alloc (.cells #[.string f.nm,.int .i64 f.k,.string f.un,.string f.he,.slice f.pa f.ps.length f.pc] 35)) := (Ext.refl _).alloc _
 clear h
 go_enter Tryz.func91,Tryz.ntmps91
 cases D
 all_goals
  go_wp2_with fail
  go_ret
  exact ⟨rfl,hx⟩
theorem indexName_any (b : Nat) (nm : ByteArray) (a : Option Addr) (c : Nat) (l : List FamD) (w : World) (h : StrIn b nm w) (hl : l.length ≤ 1000000) (hA : FamsA a l w) :
  Calls Tryz.prog 80 #[.slice a l.length c,.func (.func 91) #[] #[.pointer (some ⟨b,0,none⟩)]] w fun e w' => e = .returned (.int .i64 (nmAt nm 0 (l.map FamD.y))) ∧ Ext w w' := by
 obtain ⟨R,hR⟩ : ∃ R,nmAt nm 0 (l.map FamD.y) = R := ⟨_,rfl⟩
 rw [hR]
 go_enter Tryz.func80,Tryz.ntmps80
 go_wp2_with fail
 go_loopw [8] (fun i wr => ∃ j : Nat,i = .int .i64 j ∧ j ≤ l.length ∧ Hid (nmAt nm j ((l.drop j).map FamD.y) = R) ∧ Ext w wr) (fun i _ => l.length - (intOf i).toNat)
 case atStart => exact ⟨0,rfl,Nat.zero_le _,Lib.hid hR,Ext.refl _⟩
 case round =>
  obtain ⟨j,rfl,hk,hg,xr⟩ := hrel
  clear hR
  by_cases hlt : j < l.length
  ·have hd := hg.out
   rw [List.drop_eq_getElem_cons hlt,List.map_cons] at hd
   unfold nmAt at hd
   obtain ⟨b1,o1,rfl,hb1,hL⟩ := hA.1 (by omega)
   obtain ⟨p0,p1,p2,p3,p4⟩ := hL j hlt
   generalize l[j] = p at *
   have C := isName_any b nm p wr (h.ext xr)
   rw [show p.y.nm = p.nm from rfl] at hd
   obtain ⟨g,hg2⟩ : ∃ g,decide (p.nm = nm) = g := ⟨_,rfl⟩
   rw [hg2] at C
   unfold FamD.v at C
   replace p0 := (Ext.cell xr hb1).trans p0
   replace p1 := (Ext.cell xr hb1).trans p1
   replace p2 := (Ext.cell xr hb1).trans p2
   replace p3 := (Ext.cell xr hb1).trans p3
   replace p4 := (Ext.cell xr hb1).trans p4
   clear hL hA hg
   cases g
   ·rw [if_neg (of_decide_eq_false hg2)] at hd
    replace hd := Lib.hid hd
    clear hg2
    go_wp2_with fail
    (with_reducible refine C.mono ?_)
    rintro e w1 ⟨rfl,x1⟩
    clear p0 p1 p2 p3 p4
    go_wp2_with fail
    go_roundw
    case rel => exact ⟨j + 1,rfl,hlt,hd,xr.trans x1⟩
    case measure => simp only [intOf]; omega
   ·rw [if_pos (of_decide_eq_true hg2)] at hd
    replace hd := Lib.hid hd
    clear hg2
    go_wp2_with fail
    (with_reducible refine C.mono ?_)
    rintro e w1 ⟨rfl,x1⟩
    clear p0 p1 p2 p3 p4
    go_wp2_with fail
    go_ret
    exact ⟨retI hd.out,xr.trans x1⟩
  ·have hd := hg.out
   rw [show l.drop j = [] from List.drop_eq_nil_of_le (by omega)] at hd
   replace hd : Hid ((-1 : Int) = R) := Lib.hid hd
   have hk3 : l.length ≤ j := by omega
   clear hk hg hA hlt
   go_wp2_with fail
   go_ret
   exact ⟨retI hd.out,xr⟩
theorem place_any (jb : Nat) (tn nm : ByteArray) (a : Option Addr) (c : Nat) (l : List FamD) (w : World) (h : JoinIn jb tn (.slice a l.length c) w) (hl : l.length ≤ 1000000) (hA : FamsA a l w) :
  Calls Tryz.prog 60 #[.pointer (some ⟨jb,0,none⟩),.string nm] w fun e w' => e = .returned (.int .i64 (nmAt nm 0 (l.map FamD.y))) ∧ Ext w w' := by
 have x1 : Ext w (w.alloc (.cells #[.string nm] 9)) := (Ext.refl w).alloc _
 have hs : StrIn w.heap.size nm (w.alloc (.cells #[.string nm] 9)) := heap_last _ _
 have C := indexName_any w.heap.size nm a c l _ hs hl (hA.ext x1)
 have hmf : ∀ (fn : Fn) (first cap : Array Value) (w : World),(Instr.makeFunc fn first cap).run Tryz.prog w = .ok (.func fn first cap) w := fun _ _ _ _ => rfl
 obtain ⟨c0,c1⟩ := (h.ext x1).cells
 generalize nmAt nm 0 (l.map FamD.y) = r at *
 clear hA hs
 go_enter Tryz.func60,Tryz.ntmps60
 go_wp2_with fail
 (with_reducible refine C.mono ?_)
 rintro e w1 ⟨rfl,x2⟩
 go_wp2_with fail
 go_ret
 exact ⟨rfl,x1.trans x2⟩
theorem FamsA.oneF {g : Nat} {f : FamD} {w : World} (h : w.heap[g]? = some (.cells #[.string f.nm,.int .i64 f.k,.string f.un,.string f.he,.slice f.pa f.ps.length f.pc] 35 (0,0))) (hp : PtsA f.pa f.ps w) : FamsA (some ⟨g,0,none⟩) [f] w := by
 refine ⟨fun _ => ⟨g,0,rfl,(Array.getElem?_eq_some_iff.1 h).1,fun i hi => ?_⟩,fun q hq => by rw [List.mem_singleton] at hq; subst hq; exact hp⟩
 simp only [Lib.cell_of_heap h]
 match i,hi with
 | 0,_ => exact ⟨rfl,rfl,rfl,rfl,rfl⟩
theorem FamIn.lt {b : Nat} {nm : ByteArray} {k : Int} {un he : ByteArray} {pv : Value} {w : World} (h : FamIn b nm k un he pv w) : b < w.heap.size := (Array.getElem?_eq_some_iff.1 h).1
def FamY.zero : FamY := ⟨⟨#[]⟩,0,⟨#[]⟩,⟨#[]⟩,[]⟩
noncomputable def takeY (L : List FamY) (f : FamY) : Option (List FamY) :=
 if nmAt f.nm 0 L < 0 then some (L ++ [f]) else (putY (L[(nmAt f.nm 0 L).toNat]?.getD FamY.zero) f).map (fun g => L.set (nmAt f.nm 0 L).toNat g)
def TakesTold (jb : Nat) (tn : ByteArray) (base : Nat) (L : List FamY) (f : FamY) (e : Ending) (w' : World) : Prop :=
 (∃ v' L',takeY L f = some (L'.map FamD.y) ∧ e = .returned (.bool true) ∧ JoinIn jb tn v' w' ∧ OwnF base v' L' w' ∧ base ≤ w'.heap.size) ∨ (takeY L f = none ∧ e = .returned (.bool false))
theorem PutTold.form {a b : FamY} {base : Nat} {e : Ending} {w' : World} (h : PutTold a b base e w') :
  ∃ (q : FamD) (ok : Bool),e = .returned (.tuple #[.agg #[.string q.nm,.int .i64 q.k,.string q.un,.string q.he,.slice q.pa q.ps.length q.pc],.bool ok]) ∧ PtsA q.pa q.ps w' ∧ q.Blk (fun b => base ≤ b ∧ b < w'.heap.size) ∧ ((ok = true ∧ putY a b = some q.y) ∨ (ok = false ∧ putY a b = none)) := by
 rcases h with ⟨q,h1,h2,h3,h4⟩ | ⟨h1,h2⟩
 ·exact ⟨q,true,h2,h3,h4,.inl ⟨rfl,h1⟩⟩
 ·exact ⟨FamD.zero,false,h2,⟨fun h => absurd h (by simp [FamD.zero]),by intro p hp; simp [FamD.zero] at hp⟩,⟨by intro x hx; simp [FamD.zero] at hx,by intro p hp; simp [FamD.zero] at hp⟩,.inr ⟨rfl,h1⟩⟩
theorem OwnF.row {base : Nat} {g cap : Nat} {L : List FamD} {W : World} (h : OwnF base (.slice (some ⟨g,0,none⟩) L.length cap) L W) : base ≤ g ∧ RowE 5 35 FamD.cs g L.length (fun i => L[i]?.getD FamD.zero) W := by
 rcases h.1 with ⟨e,_⟩ | ⟨g',cap',e,h1,h2,c,h3,h4,h5⟩
 ·cases e
 ·injection e with e1 _ _
  injection e1 with e1
  injection e1 with e1 _ _
  subst e1
  exact ⟨h1,c,h3,by rw [h4]; exact Nat.mul_le_mul_right 5 h2,h5⟩
theorem OwnF.rowcells {base : Nat} {g cap j : Nat} {L : List FamD} {W : World} (h : OwnF base (.slice (some ⟨g,0,none⟩) L.length cap) L W) (hj : j < L.length) :
  W.cell? ⟨g,j * 5,none⟩ = some (.string L[j].nm) ∧ W.cell? ⟨g,j * 5 + 1,none⟩ = some (.int .i64 L[j].k) ∧ W.cell? ⟨g,j * 5 + 2,none⟩ = some (.string L[j].un) ∧ W.cell? ⟨g,j * 5 + 3,none⟩ = some (.string L[j].he) ∧ W.cell? ⟨g,j * 5 + 4,none⟩ = some (.slice L[j].pa L[j].ps.length L[j].pc) := by
 have C := fun x v hx hv => h.row.2.cell j x v hj hx hv
 have e : L[j]?.getD FamD.zero = L[j] := by simp [hj]
 simp only [e] at C
 exact ⟨C 0 _ (by decide) rfl,C 1 _ (by decide) rfl,C 2 _ (by decide) rfl,C 3 _ (by decide) rfl,C 4 _ (by decide) rfl⟩
theorem OwnF.free {base : Nat} {g cap : Nat} {L : List FamD} {W : World} (h : OwnF base (.slice (some ⟨g,0,none⟩) L.length cap) L W) (o : Nat) : W.frozen? ⟨g,o,none⟩ = false := h.row.2.free o
theorem Ext.set5' {w W : World} (h : Ext w W) (b o : Nat) (hb : w.heap.size ≤ b) (u0 u1 u2 u3 u4 : Value) :
  Ext w (((((W.setCell ⟨b,o,none⟩ u0).setCell ⟨b,o + 1,none⟩ u1).setCell ⟨b,o + 2,none⟩ u2).setCell ⟨b,o + 3,none⟩ u3).setCell ⟨b,o + 4,none⟩ u4) :=
 ((((h.setC b _ u0 hb).setC b _ u1 hb).setC b _ u2 hb).setC b _ u3 hb).setC b _ u4 hb
theorem OwnF.put {base : Nat} {g cap j : Nat} {L : List FamD} {W : World} {q : FamD} (h : OwnF base (.slice (some ⟨g,0,none⟩) L.length cap) L W) (hj : j < L.length) (hq : PtsA q.pa q.ps W) (hb : q.Blk (fun b => base ≤ b ∧ b < W.heap.size ∧ b ≠ g)) :
  OwnF base (.slice (some ⟨g,0,none⟩) (L.set j q).length cap) (L.set j q) (((((W.setCell ⟨g,j * 5,none⟩ (.string q.nm)).setCell ⟨g,j * 5 + 1,none⟩ (.int .i64 q.k)).setCell ⟨g,j * 5 + 2,none⟩ (.string q.un)).setCell ⟨g,j * 5 + 3,none⟩ (.string q.he)).setCell ⟨g,j * 5 + 4,none⟩ (.slice q.pa q.ps.length q.pc)) := by
 have hE : W.setCells g (j * 5) (FamD.cs q) = (((((W.setCell ⟨g,j * 5,none⟩ (.string q.nm)).setCell ⟨g,j * 5 + 1,none⟩ (.int .i64 q.k)).setCell ⟨g,j * 5 + 2,none⟩ (.string q.un)).setCell ⟨g,j * 5 + 3,none⟩ (.string q.he)).setCell ⟨g,j * 5 + 4,none⟩ (.slice q.pa q.ps.length q.pc)) := by
  simp only [FamD.cs,World.setCells]
 rw [← hE]
 have hgr := grownBy_setCells W g (j * 5) (FamD.cs q)
 have hsta := sta_grown hgr
 rw [List.length_set]
 refine ⟨?_,fun f hf => ?_⟩
 ·have hr := RowE.set (cs := FamD.cs) (fun _ => rfl) h.row.2 j hj q
  rcases h.1 with ⟨e,_⟩ | ⟨g',cap',e,h1,h2,c,h3,h4,h5⟩
  ·cases e
  ·injection e with e1 _ e2
   injection e1 with e1
   injection e1 with e1 _ _
   subst e1 e2
   obtain ⟨c',k1,k2,k3⟩ := hr
   have hcs : (W.setCells g (j * 5) (FamD.cs q)).heap[g]? = some (.cells (setL c (j * 5) (FamD.cs q)) 35 (0,0)) := heap_setCells g _ _ _ _ _ _ h3
   rw [hcs] at k1
   injection k1 with k1
   injection k1 with k1
   subst k1
   refine .inr ⟨g,cap,by rw [List.length_set],h1,by rw [List.length_set]; exact h2,_,hcs,by rw [setL_size]; exact h4,fun i hi x hx => ?_⟩
   rw [List.length_set] at hi
   rw [k3 i hi x hx]
   dsimp only
   by_cases e : i = j
   ·subst e; rw [if_pos rfl]; simp [hi]
   ·rw [if_neg e,List.getElem?_set_ne (fun h => e h.symm)]
 ·rcases List.mem_or_eq_of_mem_set hf with hf | rfl
  ·have k := h.2 f hf
   exact k.sta hsta (k.at_.mono fun b kb x hx => by injection hx with hx; rw [← hx]; exact kb.2.2 g rfl)
  ·refine ⟨hq.sta hsta (fun x hx y hy => by injection hy with hy; rw [← hy]; exact (hb.pa x hx).2.2) (fun p hp x hx y hy => by injection hy with hy; rw [← hy]; exact (hb.ps p hp x hx).2.2),hb.mono fun b kb => ⟨kb.1,Nat.lt_of_lt_of_le kb.2.1 hsta.size,fun x hx => by injection hx with hx; rw [← hx]; exact kb.2.2⟩⟩
theorem takes_any (jb : Nat) (tn : ByteArray) (v : Value) (L : List FamD) (f : FamD) (base : Nat) (w w0 : World) (hJ : JoinIn jb tn v w) (hO : OwnF base v L w) (hjb : jb < base) (hbw : base ≤ w.heap.size) (hfp : PtsA f.pa f.ps w)
  (sL : ∀ x ∈ L,x.y.Sm) (sf : f.y.Sm) (hlen : L.length ≤ 900) (hsz : ∀ x ∈ L,x.ps.length + f.ps.length ≤ 1000) (x0 : Ext w0 w) (h0 : w0.heap.size ≤ jb) :
  Calls Tryz.prog 33 #[.pointer (some ⟨jb,0,none⟩),.agg #[.string f.nm,.int .i64 f.k,.string f.un,.string f.he,.slice f.pa f.ps.length f.pc]] w fun e w' => TakesTold jb tn base (L.map FamD.y) f.y e w' ∧ Ext w0 w' := by
 obtain ⟨av,cv,hv,hA⟩ := hO.fams
 subst hv
 obtain ⟨Ly,hLy⟩ : ∃ Ly,L.map FamD.y = Ly := ⟨_,rfl⟩
 obtain ⟨fy,hfy⟩ : ∃ fy,f.y = fy := ⟨_,rfl⟩
 obtain ⟨W,hW⟩ : ∃ W,w.alloc (.cells #[.string f.nm,.int .i64 f.k,.string f.un,.string f.he,.slice f.pa f.ps.length f.pc] 35) = W := ⟨_,rfl⟩
 have x1 : Ext w W := by rw [← hW]; exact (Ext.refl w).alloc _
 have gF : FamIn w.heap.size f.nm f.k f.un f.he (.slice f.pa f.ps.length f.pc) W := by rw [← hW]; exact heap_last _ _
 replace hW := Lib.hid hW
 obtain ⟨B,hB⟩ : ∃ B,w.heap.size = B := ⟨_,rfl⟩
 rw [hB] at gF
 have PL := place_any jb tn f.nm av cv L W (hJ.ext x1) (by omega) (hA.ext x1)
 rw [hLy] at PL ⊢
 rw [hfy]
 obtain ⟨r,hr⟩ : ∃ r,nmAt f.nm 0 Ly = r := ⟨_,rfl⟩
 rw [hr] at PL
 have hcs := nmAt_cases f.nm Ly 0
 rw [hr] at hcs
 obtain ⟨p0,p1,p2,p3,p4⟩ := gF.cells
 go_enter Tryz.func33,Tryz.ntmps33
 go_wp2_with fail
 try rw [hB]
 try rw [hW.out]
 (with_reducible refine PL.mono ?_)
 rintro e wq ⟨rfl,y1⟩
 replace gF := gF.ext y1
 have xq := x1.trans y1
 replace hJ := hJ.ext xq
 replace hO := hO.ext xq
 replace hA := hA.ext xq
 replace hfp := hfp.ext xq
 have xw := x0.trans xq
 have hNq : base ≤ wq.heap.size := by have := xq.size; omega
 clear PL p0 p1 p2 p3 p4 hW y1 xq x1 x0
 have hfn : fy.nm = f.nm := by rw [← hfy]; rfl
 rcases hcs with ⟨hr1,_⟩ | ⟨j,hj,hr1,hjn⟩
 ·have i0 : r < 0 := by omega
  have hT1 : Hid (∀ q : FamD,q.y = fy → takeY Ly fy = some ((L ++ [q]).map FamD.y)) := Lib.hid (fun q hq => by
   unfold takeY
   rw [hfn,hr,if_pos i0,List.map_append,hLy,List.map_singleton,hq])
  have OW := fun W (x : Ext wq W) => ownFam_any f.nm f.k f.un f.he f.pa f.pc f.ps W sf.pl sf.ll (hfp.ext x)
  have hfy2 : Hid (∀ (a7 : Option Addr) (c7 : Nat) (LP : List PtD),LP.map PtD.y = f.ps.map PtD.y → FamD.y ⟨f.nm,f.k,f.un,f.he,a7,c7,LP⟩ = fy) := Lib.hid (fun a7 c7 LP h => by rw [← hfy]; unfold FamD.y; dsimp only; rw [h])
  clear hsz sL hA hfp hr hr1 hLy hfn hfy
  go_wp2_with fail
  refine wp_region_held_drew (S := fun _ => True) (by kernel_rfl) trivial (fun hH => ?_)
  refine tk 0 rfl (by kernel_rfl) (fun _ _ _ h => h) rfl (fun w9 hS9 => by go_simp; (try rfl)) hH ?_
  try simp only [Act.put,aT,aZ,aS]
  refine tk 1 rfl (by kernel_rfl) (fun _ _ _ h => h) rfl (fun w9 hS9 => by go_simp; (try rfl)) hH ?_
  try simp only [Act.put,aT,aZ,aS]
  refine tk 2 rfl (by kernel_rfl) (fun _ _ _ h => h) rfl (fun w9 hS9 => by go_simp; (try rfl)) hH ?_
  try simp only [Act.put,aT,aZ,aS]
  refine tk 3 rfl (by kernel_rfl) (fun _ _ _ h => h) rfl (fun w9 hS9 => by go_simp; (try rfl)) hH ?_
  try simp only [Act.put,aT,aZ,aS]
  refine tk 4 rfl (by kernel_rfl) (fun _ _ _ h => h) rfl (fun w9 hS9 => by go_simp; (try rfl)) hH ?_
  try simp only [Act.put,aT,aZ,aS]
  obtain ⟨wd,hwd⟩ : ∃ x,wq.drew = x := ⟨_,rfl⟩
  have xc : Ext wq wd := by rw [← hwd]; exact (Ext.refl _).drew
  rw [hwd]
  clear hwd
  refine wR (rs := [5,6]) (by kernel_rfl) (by simp) (aR rfl (fun K hK => ?km706L1) (aR rfl (fun K hK => ?km706L2) aN))
  case km706L1 =>
   rw [if_pos (by rfl)]
   obtain ⟨e0,e1⟩ := (hJ.ext xc).cells
   go_simp
   refine hK.out _ _ trivial (fun _ => ?_)
   clear hK K e0 e1
   try simp only [aT,aZ,aS]
   refine wR (rs := [6]) (by kernel_rfl) (by simp) (aR rfl (fun K hK => ?km707L2) aN)
   case km707L2 =>
    rw [if_pos (by rfl)]
    obtain ⟨p0,p1,p2,p3,p4⟩ := (gF.ext xc).cells
    go_simp
    refine hK.out _ _ trivial (fun _ => ?_)
    clear hK K p0 p1 p2 p3 p4
    try simp only [aT,aZ,aS]
    refine wR (rs := [7]) (by kernel_rfl) (by simp) (aR rfl (fun K hK => ?km708C) aN)
    case km708C =>
     rw [if_pos (by rfl)]
     go_simp
     go_at_call 54
     (with_reducible refine (OW _ xc).mono ?_)
     rintro e wC ⟨⟨v,LP,rfl,hy,hOP⟩,xo⟩
     obtain ⟨a7,c7,rfl,hPts⟩ := hOP.pts
     have hqb := hOP.blk
     have hcz : wq.heap.size ≤ wd.heap.size := xc.size
     replace xc := xc.trans xo
     refine hK.out _ _ trivial (fun _ => ?_)
     clear hK K hOP
     try simp only [aT,aZ,aS]
     refine wR (rs := [8]) (by kernel_rfl) (by simp) (aR rfl (fun K hK => ?km709BS) aN)
     case km709BS =>
      rw [if_pos (by rfl)]
      go_simp
      refine hK.out _ _ trivial (fun _ => ?_)
      clear hK K
      try simp only [aT,aZ,aS]
      obtain ⟨wS,hwS⟩ : ∃ x,wC.alloc (.cells #[.string f.nm,.int .i64 f.k,.string f.un,.string f.he,.slice a7 LP.length c7] 35) = x := ⟨_,rfl⟩
      have xs : Ext wC wS := by rw [← hwS]; exact (Ext.refl _).alloc _
      have rs : FamsA (some ⟨wC.heap.size,0,none⟩) [(⟨f.nm,f.k,f.un,f.he,a7,c7,LP⟩ : FamD)] wS := by rw [← hwS]; exact FamsA.oneF (f := (⟨f.nm,f.k,f.un,f.he,a7,c7,LP⟩ : FamD)) (heap_last _ _) (hPts.ext ((Ext.refl _).alloc _))
      have hqz : wC.heap.size < wS.heap.size := by rw [← hwS]; simp
      rw [hwS]
      clear hwS
      replace hPts := hPts.ext xs
      replace xc := xc.trans xs
      refine wR (rs := [9]) (by kernel_rfl) (by simp) (aR rfl (fun K hK => ?km710A) aN)
      case km710A =>
       rw [if_pos (by rfl)]
       have hO3 := hO.ext xc
       have hlt3 := hO.1.lt
       obtain ⟨v',w4,ea,h1,h2,h3⟩ := append_structs tyFam (fun _ => rfl) famC_one (by decide) wS 25 base _ L.length (fun i => L[i]?.getD FamD.zero) hO3.1 (Nat.le_trans hNq xc.size) ⟨wC.heap.size,0,none⟩ 1 1 (fun i => [(⟨f.nm,f.k,f.un,f.he,a7,c7,LP⟩ : FamD)][i]?.getD FamD.zero) (FamsA.src rs) (by omega) (by omega) (.inr (by decide))
       refine Lib.wp_append_run _ _ _ _ _ rfl _ _ rfl rfl v' w4 ea (hK.out _ _ trivial (fun _ => ?_))
       clear hK K ea
       try simp only [aT,aZ,aS]
       have h1' : OwnR 5 35 FamD.cs base v' (L.length + 1) (joinF L.length (fun i => L[i]?.getD FamD.zero) (fun _ => (⟨f.nm,f.k,f.un,f.he,a7,c7,LP⟩ : FamD))) w4 := h1.congr (fun i hi => by
        unfold joinF
        by_cases q2 : i < L.length
        ·rw [if_pos q2,if_pos q2]
        ·rw [if_neg q2,if_neg q2,show i - L.length = 0 from by omega]; rfl)
       have hb3 : FamAt base _ wS (⟨f.nm,f.k,f.un,f.he,a7,c7,LP⟩ : FamD) := ⟨hPts,⟨fun x hx => by have h5 := hqb.1 x hx; exact ⟨by omega,by omega,fun g hg => by have := (hlt3 g hg).2; omega⟩,fun p hp x hx => by have h5 := hqb.2 p hp x hx; exact ⟨by omega,by omega,fun g hg => by have := (hlt3 g hg).2; omega⟩⟩⟩
       have hO4 := hO3.push hb3 h1' h2 h3
       have hb4 : ∀ x,(Value.slice av L.length cv).ownBlock = some x → base ≤ x := fun x hx => (hlt3 x hx).1
       have x8 : Ext w0 w4 := grown_ext' (xw.trans xc) h2 (Nat.le_refl _) (fun x hx => by have := hb4 x hx; omega)
       have hN4 : base ≤ w4.heap.size := by have := h2.size; have := xc.size; omega
       have hJ4 := (hJ.ext xc).grown h2 (fun x hx => by have := hb4 x hx; omega)
       have hTk := Lib.hid (hT1.out (⟨f.nm,f.k,f.un,f.he,a7,c7,LP⟩ : FamD) (hfy2.out _ _ _ hy))
       clear h1 h1' h2 h3 hO3 hO hb3 hb4 hlt3 rs hqb hy xc xw hJ gF hPts
       obtain ⟨a5,c5,hv5⟩ := hO4.1.form
       subst hv5
       obtain ⟨L',hL'⟩ : ∃ L',L ++ [(⟨f.nm,f.k,f.un,f.he,a7,c7,LP⟩ : FamD)] = L' := ⟨_,rfl⟩
       rw [hL'] at hTk hO4 ⊢
       clear hL'
       refine tk 10 rfl (by kernel_rfl) (fun _ _ _ h => h) rfl (fun w9 hS9 => by go_simp; (try rfl)) hH ?_
       try simp only [Act.put,aT,aZ,aS]
       refine tk 11 rfl (by kernel_rfl) (fun _ _ _ h => h) rfl (fun w9 hS9 => by go_simp; (try rfl)) hH ?_
       try simp only [Act.put,aT,aZ,aS]
       refine tk 12 rfl (by kernel_rfl) (fun _ _ _ h => h) rfl (fun w9 hS9 => by go_simp; (try rfl)) hH ?_
       try simp only [Act.put,aT,aZ,aS]
       refine wR (rs := [13]) (by kernel_rfl) (by simp) (aR rfl (fun K hK => ?km714ST) aN)
       case km714ST =>
        rw [if_pos (by rfl)]
        obtain ⟨e0,e1⟩ := hJ4.cells
        have fr := fun o => hJ4.free o
        go_simp
        refine hK.out _ _ trivial (fun _ => ?_)
        clear hK K fr e0 e1
        try simp only [aT,aZ,aS]
        have hJ5 := hJ4.set1 (.slice a5 L'.length c5)
        have hO5 := hO4.setC jb 1 (.slice a5 L'.length c5) hjb
        have x9 := x8.setC jb 1 (.slice a5 L'.length c5) h0
        have hN9 : base ≤ (w4.setCell ⟨jb,1,none⟩ (.slice a5 L'.length c5)).heap.size := by rw [World.size_setCell]; exact hN4
        refine wpAnyH_done (by kernel_rfl) ?_ _
        go_wp2_with fail
        go_ret
        exact ⟨.inl ⟨_,_,hTk.out,rfl,hJ5,hO5,hN9⟩,x9⟩
  case km706L2 =>
   rw [if_pos (by rfl)]
   obtain ⟨p0,p1,p2,p3,p4⟩ := (gF.ext xc).cells
   go_simp
   refine hK.out _ _ trivial (fun _ => ?_)
   clear hK K p0 p1 p2 p3 p4
   try simp only [aT,aZ,aS]
   refine wR (rs := [5,7]) (by kernel_rfl) (by simp) (aR rfl (fun K hK => ?km715L1) (aR rfl (fun K hK => ?km715C) aN))
   case km715L1 =>
    rw [if_pos (by rfl)]
    obtain ⟨e0,e1⟩ := (hJ.ext xc).cells
    go_simp
    refine hK.out _ _ trivial (fun _ => ?_)
    clear hK K e0 e1
    try simp only [aT,aZ,aS]
    refine wR (rs := [7]) (by kernel_rfl) (by simp) (aR rfl (fun K hK => ?km716C) aN)
    case km716C =>
     rw [if_pos (by rfl)]
     go_simp
     go_at_call 54
     (with_reducible refine (OW _ xc).mono ?_)
     rintro e wC ⟨⟨v,LP,rfl,hy,hOP⟩,xo⟩
     obtain ⟨a7,c7,rfl,hPts⟩ := hOP.pts
     have hqb := hOP.blk
     have hcz : wq.heap.size ≤ wd.heap.size := xc.size
     replace xc := xc.trans xo
     refine hK.out _ _ trivial (fun _ => ?_)
     clear hK K hOP
     try simp only [aT,aZ,aS]
     refine wR (rs := [8]) (by kernel_rfl) (by simp) (aR rfl (fun K hK => ?km717BS) aN)
     case km717BS =>
      rw [if_pos (by rfl)]
      go_simp
      refine hK.out _ _ trivial (fun _ => ?_)
      clear hK K
      try simp only [aT,aZ,aS]
      obtain ⟨wS,hwS⟩ : ∃ x,wC.alloc (.cells #[.string f.nm,.int .i64 f.k,.string f.un,.string f.he,.slice a7 LP.length c7] 35) = x := ⟨_,rfl⟩
      have xs : Ext wC wS := by rw [← hwS]; exact (Ext.refl _).alloc _
      have rs : FamsA (some ⟨wC.heap.size,0,none⟩) [(⟨f.nm,f.k,f.un,f.he,a7,c7,LP⟩ : FamD)] wS := by rw [← hwS]; exact FamsA.oneF (f := (⟨f.nm,f.k,f.un,f.he,a7,c7,LP⟩ : FamD)) (heap_last _ _) (hPts.ext ((Ext.refl _).alloc _))
      have hqz : wC.heap.size < wS.heap.size := by rw [← hwS]; simp
      rw [hwS]
      clear hwS
      replace hPts := hPts.ext xs
      replace xc := xc.trans xs
      refine wR (rs := [9]) (by kernel_rfl) (by simp) (aR rfl (fun K hK => ?km718A) aN)
      case km718A =>
       rw [if_pos (by rfl)]
       have hO3 := hO.ext xc
       have hlt3 := hO.1.lt
       obtain ⟨v',w4,ea,h1,h2,h3⟩ := append_structs tyFam (fun _ => rfl) famC_one (by decide) wS 25 base _ L.length (fun i => L[i]?.getD FamD.zero) hO3.1 (Nat.le_trans hNq xc.size) ⟨wC.heap.size,0,none⟩ 1 1 (fun i => [(⟨f.nm,f.k,f.un,f.he,a7,c7,LP⟩ : FamD)][i]?.getD FamD.zero) (FamsA.src rs) (by omega) (by omega) (.inr (by decide))
       refine Lib.wp_append_run _ _ _ _ _ rfl _ _ rfl rfl v' w4 ea (hK.out _ _ trivial (fun _ => ?_))
       clear hK K ea
       try simp only [aT,aZ,aS]
       have h1' : OwnR 5 35 FamD.cs base v' (L.length + 1) (joinF L.length (fun i => L[i]?.getD FamD.zero) (fun _ => (⟨f.nm,f.k,f.un,f.he,a7,c7,LP⟩ : FamD))) w4 := h1.congr (fun i hi => by
        unfold joinF
        by_cases q2 : i < L.length
        ·rw [if_pos q2,if_pos q2]
        ·rw [if_neg q2,if_neg q2,show i - L.length = 0 from by omega]; rfl)
       have hb3 : FamAt base _ wS (⟨f.nm,f.k,f.un,f.he,a7,c7,LP⟩ : FamD) := ⟨hPts,⟨fun x hx => by have h5 := hqb.1 x hx; exact ⟨by omega,by omega,fun g hg => by have := (hlt3 g hg).2; omega⟩,fun p hp x hx => by have h5 := hqb.2 p hp x hx; exact ⟨by omega,by omega,fun g hg => by have := (hlt3 g hg).2; omega⟩⟩⟩
       have hO4 := hO3.push hb3 h1' h2 h3
       have hb4 : ∀ x,(Value.slice av L.length cv).ownBlock = some x → base ≤ x := fun x hx => (hlt3 x hx).1
       have x8 : Ext w0 w4 := grown_ext' (xw.trans xc) h2 (Nat.le_refl _) (fun x hx => by have := hb4 x hx; omega)
       have hN4 : base ≤ w4.heap.size := by have := h2.size; have := xc.size; omega
       have hJ4 := (hJ.ext xc).grown h2 (fun x hx => by have := hb4 x hx; omega)
       have hTk := Lib.hid (hT1.out (⟨f.nm,f.k,f.un,f.he,a7,c7,LP⟩ : FamD) (hfy2.out _ _ _ hy))
       clear h1 h1' h2 h3 hO3 hO hb3 hb4 hlt3 rs hqb hy xc xw hJ gF hPts
       obtain ⟨a5,c5,hv5⟩ := hO4.1.form
       subst hv5
       obtain ⟨L',hL'⟩ : ∃ L',L ++ [(⟨f.nm,f.k,f.un,f.he,a7,c7,LP⟩ : FamD)] = L' := ⟨_,rfl⟩
       rw [hL'] at hTk hO4 ⊢
       clear hL'
       refine tk 10 rfl (by kernel_rfl) (fun _ _ _ h => h) rfl (fun w9 hS9 => by go_simp; (try rfl)) hH ?_
       try simp only [Act.put,aT,aZ,aS]
       refine tk 11 rfl (by kernel_rfl) (fun _ _ _ h => h) rfl (fun w9 hS9 => by go_simp; (try rfl)) hH ?_
       try simp only [Act.put,aT,aZ,aS]
       refine tk 12 rfl (by kernel_rfl) (fun _ _ _ h => h) rfl (fun w9 hS9 => by go_simp; (try rfl)) hH ?_
       try simp only [Act.put,aT,aZ,aS]
       refine wR (rs := [13]) (by kernel_rfl) (by simp) (aR rfl (fun K hK => ?km722ST) aN)
       case km722ST =>
        rw [if_pos (by rfl)]
        obtain ⟨e0,e1⟩ := hJ4.cells
        have fr := fun o => hJ4.free o
        go_simp
        refine hK.out _ _ trivial (fun _ => ?_)
        clear hK K fr e0 e1
        try simp only [aT,aZ,aS]
        have hJ5 := hJ4.set1 (.slice a5 L'.length c5)
        have hO5 := hO4.setC jb 1 (.slice a5 L'.length c5) hjb
        have x9 := x8.setC jb 1 (.slice a5 L'.length c5) h0
        have hN9 : base ≤ (w4.setCell ⟨jb,1,none⟩ (.slice a5 L'.length c5)).heap.size := by rw [World.size_setCell]; exact hN4
        refine wpAnyH_done (by kernel_rfl) ?_ _
        go_wp2_with fail
        go_ret
        exact ⟨.inl ⟨_,_,hTk.out,rfl,hJ5,hO5,hN9⟩,x9⟩
   case km715C =>
    rw [if_pos (by rfl)]
    go_simp
    go_at_call 54
    (with_reducible refine (OW _ xc).mono ?_)
    rintro e wC ⟨⟨v,LP,rfl,hy,hOP⟩,xo⟩
    obtain ⟨a7,c7,rfl,hPts⟩ := hOP.pts
    have hqb := hOP.blk
    have hcz : wq.heap.size ≤ wd.heap.size := xc.size
    replace xc := xc.trans xo
    refine hK.out _ _ trivial (fun _ => ?_)
    clear hK K hOP
    try simp only [aT,aZ,aS]
    refine wR (rs := [5,8]) (by kernel_rfl) (by simp) (aR rfl (fun K hK => ?km723L1) (aR rfl (fun K hK => ?km723BS) aN))
    case km723L1 =>
     rw [if_pos (by rfl)]
     obtain ⟨e0,e1⟩ := (hJ.ext xc).cells
     go_simp
     refine hK.out _ _ trivial (fun _ => ?_)
     clear hK K e0 e1
     try simp only [aT,aZ,aS]
     refine wR (rs := [8]) (by kernel_rfl) (by simp) (aR rfl (fun K hK => ?km724BS) aN)
     case km724BS =>
      rw [if_pos (by rfl)]
      go_simp
      refine hK.out _ _ trivial (fun _ => ?_)
      clear hK K
      try simp only [aT,aZ,aS]
      obtain ⟨wS,hwS⟩ : ∃ x,wC.alloc (.cells #[.string f.nm,.int .i64 f.k,.string f.un,.string f.he,.slice a7 LP.length c7] 35) = x := ⟨_,rfl⟩
      have xs : Ext wC wS := by rw [← hwS]; exact (Ext.refl _).alloc _
      have rs : FamsA (some ⟨wC.heap.size,0,none⟩) [(⟨f.nm,f.k,f.un,f.he,a7,c7,LP⟩ : FamD)] wS := by rw [← hwS]; exact FamsA.oneF (f := (⟨f.nm,f.k,f.un,f.he,a7,c7,LP⟩ : FamD)) (heap_last _ _) (hPts.ext ((Ext.refl _).alloc _))
      have hqz : wC.heap.size < wS.heap.size := by rw [← hwS]; simp
      rw [hwS]
      clear hwS
      replace hPts := hPts.ext xs
      replace xc := xc.trans xs
      refine wR (rs := [9]) (by kernel_rfl) (by simp) (aR rfl (fun K hK => ?km725A) aN)
      case km725A =>
       rw [if_pos (by rfl)]
       have hO3 := hO.ext xc
       have hlt3 := hO.1.lt
       obtain ⟨v',w4,ea,h1,h2,h3⟩ := append_structs tyFam (fun _ => rfl) famC_one (by decide) wS 25 base _ L.length (fun i => L[i]?.getD FamD.zero) hO3.1 (Nat.le_trans hNq xc.size) ⟨wC.heap.size,0,none⟩ 1 1 (fun i => [(⟨f.nm,f.k,f.un,f.he,a7,c7,LP⟩ : FamD)][i]?.getD FamD.zero) (FamsA.src rs) (by omega) (by omega) (.inr (by decide))
       refine Lib.wp_append_run _ _ _ _ _ rfl _ _ rfl rfl v' w4 ea (hK.out _ _ trivial (fun _ => ?_))
       clear hK K ea
       try simp only [aT,aZ,aS]
       have h1' : OwnR 5 35 FamD.cs base v' (L.length + 1) (joinF L.length (fun i => L[i]?.getD FamD.zero) (fun _ => (⟨f.nm,f.k,f.un,f.he,a7,c7,LP⟩ : FamD))) w4 := h1.congr (fun i hi => by
        unfold joinF
        by_cases q2 : i < L.length
        ·rw [if_pos q2,if_pos q2]
        ·rw [if_neg q2,if_neg q2,show i - L.length = 0 from by omega]; rfl)
       have hb3 : FamAt base _ wS (⟨f.nm,f.k,f.un,f.he,a7,c7,LP⟩ : FamD) := ⟨hPts,⟨fun x hx => by have h5 := hqb.1 x hx; exact ⟨by omega,by omega,fun g hg => by have := (hlt3 g hg).2; omega⟩,fun p hp x hx => by have h5 := hqb.2 p hp x hx; exact ⟨by omega,by omega,fun g hg => by have := (hlt3 g hg).2; omega⟩⟩⟩
       have hO4 := hO3.push hb3 h1' h2 h3
       have hb4 : ∀ x,(Value.slice av L.length cv).ownBlock = some x → base ≤ x := fun x hx => (hlt3 x hx).1
       have x8 : Ext w0 w4 := grown_ext' (xw.trans xc) h2 (Nat.le_refl _) (fun x hx => by have := hb4 x hx; omega)
       have hN4 : base ≤ w4.heap.size := by have := h2.size; have := xc.size; omega
       have hJ4 := (hJ.ext xc).grown h2 (fun x hx => by have := hb4 x hx; omega)
       have hTk := Lib.hid (hT1.out (⟨f.nm,f.k,f.un,f.he,a7,c7,LP⟩ : FamD) (hfy2.out _ _ _ hy))
       clear h1 h1' h2 h3 hO3 hO hb3 hb4 hlt3 rs hqb hy xc xw hJ gF hPts
       obtain ⟨a5,c5,hv5⟩ := hO4.1.form
       subst hv5
       obtain ⟨L',hL'⟩ : ∃ L',L ++ [(⟨f.nm,f.k,f.un,f.he,a7,c7,LP⟩ : FamD)] = L' := ⟨_,rfl⟩
       rw [hL'] at hTk hO4 ⊢
       clear hL'
       refine tk 10 rfl (by kernel_rfl) (fun _ _ _ h => h) rfl (fun w9 hS9 => by go_simp; (try rfl)) hH ?_
       try simp only [Act.put,aT,aZ,aS]
       refine tk 11 rfl (by kernel_rfl) (fun _ _ _ h => h) rfl (fun w9 hS9 => by go_simp; (try rfl)) hH ?_
       try simp only [Act.put,aT,aZ,aS]
       refine tk 12 rfl (by kernel_rfl) (fun _ _ _ h => h) rfl (fun w9 hS9 => by go_simp; (try rfl)) hH ?_
       try simp only [Act.put,aT,aZ,aS]
       refine wR (rs := [13]) (by kernel_rfl) (by simp) (aR rfl (fun K hK => ?km729ST) aN)
       case km729ST =>
        rw [if_pos (by rfl)]
        obtain ⟨e0,e1⟩ := hJ4.cells
        have fr := fun o => hJ4.free o
        go_simp
        refine hK.out _ _ trivial (fun _ => ?_)
        clear hK K fr e0 e1
        try simp only [aT,aZ,aS]
        have hJ5 := hJ4.set1 (.slice a5 L'.length c5)
        have hO5 := hO4.setC jb 1 (.slice a5 L'.length c5) hjb
        have x9 := x8.setC jb 1 (.slice a5 L'.length c5) h0
        have hN9 : base ≤ (w4.setCell ⟨jb,1,none⟩ (.slice a5 L'.length c5)).heap.size := by rw [World.size_setCell]; exact hN4
        refine wpAnyH_done (by kernel_rfl) ?_ _
        go_wp2_with fail
        go_ret
        exact ⟨.inl ⟨_,_,hTk.out,rfl,hJ5,hO5,hN9⟩,x9⟩
    case km723BS =>
     rw [if_pos (by rfl)]
     go_simp
     refine hK.out _ _ trivial (fun _ => ?_)
     clear hK K
     try simp only [aT,aZ,aS]
     obtain ⟨wS,hwS⟩ : ∃ x,wC.alloc (.cells #[.string f.nm,.int .i64 f.k,.string f.un,.string f.he,.slice a7 LP.length c7] 35) = x := ⟨_,rfl⟩
     have xs : Ext wC wS := by rw [← hwS]; exact (Ext.refl _).alloc _
     have rs : FamsA (some ⟨wC.heap.size,0,none⟩) [(⟨f.nm,f.k,f.un,f.he,a7,c7,LP⟩ : FamD)] wS := by rw [← hwS]; exact FamsA.oneF (f := (⟨f.nm,f.k,f.un,f.he,a7,c7,LP⟩ : FamD)) (heap_last _ _) (hPts.ext ((Ext.refl _).alloc _))
     have hqz : wC.heap.size < wS.heap.size := by rw [← hwS]; simp
     rw [hwS]
     clear hwS
     replace hPts := hPts.ext xs
     replace xc := xc.trans xs
     refine wR (rs := [5]) (by kernel_rfl) (by simp) (aR rfl (fun K hK => ?km730L1) aN)
     case km730L1 =>
      rw [if_pos (by rfl)]
      obtain ⟨e0,e1⟩ := (hJ.ext xc).cells
      go_simp
      refine hK.out _ _ trivial (fun _ => ?_)
      clear hK K e0 e1
      try simp only [aT,aZ,aS]
      refine wR (rs := [9]) (by kernel_rfl) (by simp) (aR rfl (fun K hK => ?km731A) aN)
      case km731A =>
       rw [if_pos (by rfl)]
       have hO3 := hO.ext xc
       have hlt3 := hO.1.lt
       obtain ⟨v',w4,ea,h1,h2,h3⟩ := append_structs tyFam (fun _ => rfl) famC_one (by decide) wS 25 base _ L.length (fun i => L[i]?.getD FamD.zero) hO3.1 (Nat.le_trans hNq xc.size) ⟨wC.heap.size,0,none⟩ 1 1 (fun i => [(⟨f.nm,f.k,f.un,f.he,a7,c7,LP⟩ : FamD)][i]?.getD FamD.zero) (FamsA.src rs) (by omega) (by omega) (.inr (by decide))
       refine Lib.wp_append_run _ _ _ _ _ rfl _ _ rfl rfl v' w4 ea (hK.out _ _ trivial (fun _ => ?_))
       clear hK K ea
       try simp only [aT,aZ,aS]
       have h1' : OwnR 5 35 FamD.cs base v' (L.length + 1) (joinF L.length (fun i => L[i]?.getD FamD.zero) (fun _ => (⟨f.nm,f.k,f.un,f.he,a7,c7,LP⟩ : FamD))) w4 := h1.congr (fun i hi => by
        unfold joinF
        by_cases q2 : i < L.length
        ·rw [if_pos q2,if_pos q2]
        ·rw [if_neg q2,if_neg q2,show i - L.length = 0 from by omega]; rfl)
       have hb3 : FamAt base _ wS (⟨f.nm,f.k,f.un,f.he,a7,c7,LP⟩ : FamD) := ⟨hPts,⟨fun x hx => by have h5 := hqb.1 x hx; exact ⟨by omega,by omega,fun g hg => by have := (hlt3 g hg).2; omega⟩,fun p hp x hx => by have h5 := hqb.2 p hp x hx; exact ⟨by omega,by omega,fun g hg => by have := (hlt3 g hg).2; omega⟩⟩⟩
       have hO4 := hO3.push hb3 h1' h2 h3
       have hb4 : ∀ x,(Value.slice av L.length cv).ownBlock = some x → base ≤ x := fun x hx => (hlt3 x hx).1
       have x8 : Ext w0 w4 := grown_ext' (xw.trans xc) h2 (Nat.le_refl _) (fun x hx => by have := hb4 x hx; omega)
       have hN4 : base ≤ w4.heap.size := by have := h2.size; have := xc.size; omega
       have hJ4 := (hJ.ext xc).grown h2 (fun x hx => by have := hb4 x hx; omega)
       have hTk := Lib.hid (hT1.out (⟨f.nm,f.k,f.un,f.he,a7,c7,LP⟩ : FamD) (hfy2.out _ _ _ hy))
       clear h1 h1' h2 h3 hO3 hO hb3 hb4 hlt3 rs hqb hy xc xw hJ gF hPts
       obtain ⟨a5,c5,hv5⟩ := hO4.1.form
       subst hv5
       obtain ⟨L',hL'⟩ : ∃ L',L ++ [(⟨f.nm,f.k,f.un,f.he,a7,c7,LP⟩ : FamD)] = L' := ⟨_,rfl⟩
       rw [hL'] at hTk hO4 ⊢
       clear hL'
       refine tk 10 rfl (by kernel_rfl) (fun _ _ _ h => h) rfl (fun w9 hS9 => by go_simp; (try rfl)) hH ?_
       try simp only [Act.put,aT,aZ,aS]
       refine tk 11 rfl (by kernel_rfl) (fun _ _ _ h => h) rfl (fun w9 hS9 => by go_simp; (try rfl)) hH ?_
       try simp only [Act.put,aT,aZ,aS]
       refine tk 12 rfl (by kernel_rfl) (fun _ _ _ h => h) rfl (fun w9 hS9 => by go_simp; (try rfl)) hH ?_
       try simp only [Act.put,aT,aZ,aS]
       refine wR (rs := [13]) (by kernel_rfl) (by simp) (aR rfl (fun K hK => ?km735ST) aN)
       case km735ST =>
        rw [if_pos (by rfl)]
        obtain ⟨e0,e1⟩ := hJ4.cells
        have fr := fun o => hJ4.free o
        go_simp
        refine hK.out _ _ trivial (fun _ => ?_)
        clear hK K fr e0 e1
        try simp only [aT,aZ,aS]
        have hJ5 := hJ4.set1 (.slice a5 L'.length c5)
        have hO5 := hO4.setC jb 1 (.slice a5 L'.length c5) hjb
        have x9 := x8.setC jb 1 (.slice a5 L'.length c5) h0
        have hN9 : base ≤ (w4.setCell ⟨jb,1,none⟩ (.slice a5 L'.length c5)).heap.size := by rw [World.size_setCell]; exact hN4
        refine wpAnyH_done (by kernel_rfl) ?_ _
        go_wp2_with fail
        go_ret
        exact ⟨.inl ⟨_,_,hTk.out,rfl,hJ5,hO5,hN9⟩,x9⟩
 ·have hj' : j < L.length := by rw [← hLy] at hj; simpa using hj
  have i0 : ¬ r < 0 := by omega
  have hrj : r = (j : Int) := by omega
  subst hrj
  obtain ⟨rg,rcap,hrow,_,_⟩ := hO.1.row (by omega)
  injection hrow with e1 _ e3
  subst e1 e3
  obtain ⟨hr0,_⟩ := hO.row
  have hTg : Hid (∀ q : FamD,putY L[j].y fy = some q.y → takeY Ly fy = some ((L.set j q).map FamD.y)) := Lib.hid (fun q hq => by
   unfold takeY
   rw [hfn,hr,if_neg i0,Int.toNat_natCast,show Ly[j]?.getD FamY.zero = L[j].y from by rw [← hLy]; simp [hj'],hq,Option.map_some,← hLy,List.map_set])
  have hTn : Hid (putY L[j].y fy = none → takeY Ly fy = none) := Lib.hid (fun hq => by
   unfold takeY
   rw [hfn,hr,if_neg i0,Int.toNat_natCast,show Ly[j]?.getD FamY.zero = L[j].y from by rw [← hLy]; simp [hj'],hq]
   rfl)
  have PU := fun W (x : Ext wq W) => put_any L[j] f W ((hA.2 _ (List.getElem_mem hj')).ext x) (hfp.ext x) (sL _ (List.getElem_mem hj')) sf (hsz _ (List.getElem_mem hj'))
  rw [hfy] at PU
  obtain ⟨r0,r1,r2,r3,r4⟩ := hO.rowcells hj'
  have hbR : rg < wq.heap.size := World.block_lt_of_cell? _ _ r0
  have hbJ := hJ.lt
  have hbF := gF.lt
  obtain ⟨e0,e1⟩ := hJ.cells
  obtain ⟨p0,p1,p2,p3,p4⟩ := gF.cells
  have j1 : (j : Int) < (L.length : Int) := by omega
  clear hsz sL hA hfp hr hLy hjn hj hfn hfy
  generalize hLj : L[j] = Z at *
  go_wp2_with fail
  go_cut [6,7] (fun s t wx => ∃ (nb : Nat) (q3 : FamD) (ok3 : Bool),s = .pointer (some ⟨nb,0,none⟩) ∧ t = .bool ok3 ∧ nb ≠ rg ∧ FamIn nb q3.nm q3.k q3.un q3.he (.slice q3.pa q3.ps.length q3.pc) wx ∧ PtsA q3.pa q3.ps wx ∧ q3.Blk (fun b => wq.heap.size ≤ b ∧ b < wx.heap.size) ∧ Hid ((ok3 = true ∧ putY Z.y fy = some q3.y) ∨ (ok3 = false ∧ putY Z.y fy = none)) ∧ Ext wq wx)
  case first =>
   refine wp_region_held_drew (S := Ext wq) (by kernel_rfl) ((Ext.refl wq).drew) (fun hH => ?_)
   refine tk 0 rfl (by kernel_rfl) (fun _ _ _ h => h) rfl (fun w9 hS9 => by go_simp; (try rfl)) hH ?_
   try simp only [Act.put,aT,aZ,aS]
   refine tk 1 rfl (by kernel_rfl) (fun _ _ _ h => h) rfl (fun w9 hS9 => by go_simp; (try rfl)) hH ?_
   try simp only [Act.put,aT,aZ,aS]
   refine tk 2 rfl (by kernel_rfl) (fun _ _ _ h => h) rfl (fun w9 hS9 => by go_simp; (try rfl)) hH ?_
   try simp only [Act.put,aT,aZ,aS]
   refine tk 3 rfl (by kernel_rfl) (fun _ _ _ h => h) rfl (fun w9 hS9 => by go_simp; (try rfl)) hH ?_
   try simp only [Act.put,aT,aZ,aS]
   refine tk 4 rfl (by kernel_rfl) (fun _ _ _ h => h) rfl (fun w9 hS9 => by replace e0 := (Ext.cell hS9 hbJ).trans e0; replace e1 := (Ext.cell hS9 hbJ).trans e1; go_simp; (try rfl)) hH ?_
   try simp only [Act.put,aT,aZ,aS]
   refine tk 5 rfl (by kernel_rfl) (fun _ _ _ h => h) rfl (fun w9 hS9 => by go_simp; (try rfl)) hH ?_
   try simp only [Act.put,aT,aZ,aS]
   refine tk 6 rfl (by kernel_rfl) (fun _ _ _ h => h) rfl (fun w9 hS9 => by replace e0 := (Ext.cell hS9 hbJ).trans e0; replace e1 := (Ext.cell hS9 hbJ).trans e1; go_simp; (try rfl)) hH ?_
   try simp only [Act.put,aT,aZ,aS]
   refine tk 7 rfl (by kernel_rfl) (fun _ _ _ h => h) rfl (fun w9 hS9 => by replace r0 := (Ext.cell hS9 hbR).trans r0; replace r1 := (Ext.cell hS9 hbR).trans r1; replace r2 := (Ext.cell hS9 hbR).trans r2; replace r3 := (Ext.cell hS9 hbR).trans r3; replace r4 := (Ext.cell hS9 hbR).trans r4; go_simp; (try rfl)) hH ?_
   try simp only [Act.put,aT,aZ,aS]
   refine tk 8 rfl (by kernel_rfl) (fun _ _ _ h => h) rfl (fun w9 hS9 => by replace p0 := (Ext.cell hS9 hbF).trans p0; replace p1 := (Ext.cell hS9 hbF).trans p1; replace p2 := (Ext.cell hS9 hbF).trans p2; replace p3 := (Ext.cell hS9 hbF).trans p3; replace p4 := (Ext.cell hS9 hbF).trans p4; go_simp; (try rfl)) hH ?_
   try simp only [Act.put,aT,aZ,aS]
   obtain ⟨wd,hwd⟩ : ∃ x,wq.drew = x := ⟨_,rfl⟩
   rw [hwd] at hH ⊢
   clear hwd
   refine wR (rs := [9,13]) (by kernel_rfl) (by simp) (aR rfl (fun K hK => ?km745C) (aR rfl (fun K hK => ?km745AL) aN))
   case km745C =>
    rw [if_pos (by rfl)]
    go_simp
    go_at_call 29
    (with_reducible refine (PU _ hH).mono ?_)
    rintro e wC ⟨hpt,xc⟩
    obtain ⟨q3,ok3,rfl,hq3,hqb3,hres⟩ := hpt.form
    have hcz : wq.heap.size ≤ wd.heap.size := hH.size
    replace hres := Lib.hid hres
    replace hqb3 : q3.Blk (fun b => wq.heap.size ≤ b ∧ b < wC.heap.size) := hqb3.mono (fun b hb => by have h1 := hb.1; have h2 := hb.2; exact ⟨by omega,by omega⟩)
    refine hK.out _ _ (hH.trans xc) (fun hH => ?_)
    clear hK K hpt
    try simp only [aT,aZ,aS]
    refine tk 10 rfl (by kernel_rfl) (fun _ _ _ h => h) rfl (fun w9 hS9 => by go_simp; (try rfl)) hH ?_
    try simp only [Act.put,aT,aZ,aS]
    refine tk 11 rfl (by kernel_rfl) (fun _ _ _ h => h) rfl (fun w9 hS9 => by go_simp; (try rfl)) hH ?_
    try simp only [Act.put,aT,aZ,aS]
    refine tk 12 rfl (by kernel_rfl) (fun _ _ _ h => h) rfl (fun w9 hS9 => by go_simp; (try rfl)) hH ?_
    try simp only [Act.put,aT,aZ,aS]
    refine wR (rs := [13]) (by kernel_rfl) (by simp) (aR rfl (fun K hK => ?km749AL) aN)
    case km749AL =>
     rw [if_pos (by rfl)]
     go_simp
     have hnW : wq.heap.size ≤ wC.heap.size := hH.size
     refine hK.out _ _ (hH.alloc _) (fun hH => ?_)
     clear hK K
     try simp only [aT,aZ,aS]
     obtain ⟨wN,hwN⟩ : ∃ x,wC.alloc (.cells #[.string ⟨#[]⟩,.int .i64 0,.string ⟨#[]⟩,.string ⟨#[]⟩,.slice none 0 0] 35) = x := ⟨_,rfl⟩
     have xn : Ext wC wN := by rw [← hwN]; exact (Ext.refl _).alloc _
     have al : FamIn wC.heap.size ⟨#[]⟩ 0 ⟨#[]⟩ ⟨#[]⟩ (.slice none 0 0) wN := by rw [← hwN]; exact heap_last _ _
     rw [hwN] at hH ⊢
     clear hwN
     refine wR (rs := [14]) (by kernel_rfl) (by simp) (aR rfl (fun K hK => ?km750ST) aN)
     case km750ST =>
      rw [if_pos (by rfl)]
      obtain ⟨d0,d1,d2,d3,d4⟩ := al.cells
      have fr := fun o => al.free o
      have hal := al.lt
      go_simp
      refine hK.out _ _ (hH.set5 wC.heap.size hnW _ _ _ _ _) (fun hH => ?_)
      clear hK K fr d0 d1 d2 d3 d4
      try simp only [aT,aZ,aS]
      replace al := al.stored q3.nm q3.k q3.un q3.he (.slice q3.pa q3.ps.length q3.pc)
      have xw3 := xn.set5 wC.heap.size (Nat.le_refl _) (.string q3.nm) (.int .i64 q3.k) (.string q3.un) (.string q3.he) (.slice q3.pa q3.ps.length q3.pc)
      refine tk 15 rfl (by kernel_rfl) (fun _ _ _ h => h) rfl (fun w9 hS9 => by go_simp; (try rfl)) hH ?_
      try simp only [Act.put,aT,aZ,aS]
      refine wpAnyH_done (by kernel_rfl) ?_ _
      go_wp2_with fail
      go_meet
      case rel =>
       exact ⟨_,q3,ok3,rfl,rfl,by omega,al,hq3.ext xw3,hqb3.mono (fun b hb => ⟨hb.1,Nat.lt_of_lt_of_le hb.2 xw3.size⟩),hres,hH⟩
   case km745AL =>
    rw [if_pos (by rfl)]
    go_simp
    have hnW : wq.heap.size ≤ wd.heap.size := hH.size
    refine hK.out _ _ (hH.alloc _) (fun hH => ?_)
    clear hK K
    try simp only [aT,aZ,aS]
    obtain ⟨wN,hwN⟩ : ∃ x,wd.alloc (.cells #[.string ⟨#[]⟩,.int .i64 0,.string ⟨#[]⟩,.string ⟨#[]⟩,.slice none 0 0] 35) = x := ⟨_,rfl⟩
    have xn : Ext wd wN := by rw [← hwN]; exact (Ext.refl _).alloc _
    have al : FamIn wd.heap.size ⟨#[]⟩ 0 ⟨#[]⟩ ⟨#[]⟩ (.slice none 0 0) wN := by rw [← hwN]; exact heap_last _ _
    rw [hwN] at hH ⊢
    clear hwN
    refine wR (rs := [9]) (by kernel_rfl) (by simp) (aR rfl (fun K hK => ?km752C) aN)
    case km752C =>
     rw [if_pos (by rfl)]
     go_simp
     go_at_call 29
     (with_reducible refine (PU _ hH).mono ?_)
     rintro e wC ⟨hpt,xc⟩
     obtain ⟨q3,ok3,rfl,hq3,hqb3,hres⟩ := hpt.form
     have hcz : wq.heap.size ≤ wN.heap.size := hH.size
     replace hres := Lib.hid hres
     replace hqb3 : q3.Blk (fun b => wq.heap.size ≤ b ∧ b < wC.heap.size ∧ b ≠ wd.heap.size) := hqb3.mono (fun b hb => by have h1 := hb.1; have h2 := hb.2; have h3 := al.lt; exact ⟨by omega,by omega,by omega⟩)
     refine hK.out _ _ (hH.trans xc) (fun hH => ?_)
     clear hK K hpt
     try simp only [aT,aZ,aS]
     replace al := al.ext xc
     refine tk 10 rfl (by kernel_rfl) (fun _ _ _ h => h) rfl (fun w9 hS9 => by go_simp; (try rfl)) hH ?_
     try simp only [Act.put,aT,aZ,aS]
     refine tk 11 rfl (by kernel_rfl) (fun _ _ _ h => h) rfl (fun w9 hS9 => by go_simp; (try rfl)) hH ?_
     try simp only [Act.put,aT,aZ,aS]
     refine tk 12 rfl (by kernel_rfl) (fun _ _ _ h => h) rfl (fun w9 hS9 => by go_simp; (try rfl)) hH ?_
     try simp only [Act.put,aT,aZ,aS]
     refine wR (rs := [14]) (by kernel_rfl) (by simp) (aR rfl (fun K hK => ?km756ST) aN)
     case km756ST =>
      rw [if_pos (by rfl)]
      obtain ⟨d0,d1,d2,d3,d4⟩ := al.cells
      have fr := fun o => al.free o
      have hal := al.lt
      go_simp
      refine hK.out _ _ (hH.set5 wd.heap.size hnW _ _ _ _ _) (fun hH => ?_)
      clear hK K fr d0 d1 d2 d3 d4
      try simp only [aT,aZ,aS]
      replace al := al.stored q3.nm q3.k q3.un q3.he (.slice q3.pa q3.ps.length q3.pc)
      replace hq3 : PtsA q3.pa q3.ps (((((wC.setCell ⟨wd.heap.size,0,none⟩ (.string q3.nm)).setCell ⟨wd.heap.size,1,none⟩ (.int .i64 q3.k)).setCell ⟨wd.heap.size,2,none⟩ (.string q3.un)).setCell ⟨wd.heap.size,3,none⟩ (.string q3.he)).setCell ⟨wd.heap.size,4,none⟩ (.slice q3.pa q3.ps.length q3.pc)) := by
       have S := fun (w1 : World) (h : PtsA q3.pa q3.ps w1) (o : Nat) (u : Value) => h.sta (sta_setC w1 wd.heap.size o u) (fun x hx => (hqb3.pa x hx).2.2) (fun p hp x hx => (hqb3.ps p hp x hx).2.2)
       exact S _ (S _ (S _ (S _ (S _ hq3 _ _) _ _) _ _) _ _) _ _
      replace hqb3 : q3.Blk (fun b => wq.heap.size ≤ b ∧ b < (((((wC.setCell ⟨wd.heap.size,0,none⟩ (.string q3.nm)).setCell ⟨wd.heap.size,1,none⟩ (.int .i64 q3.k)).setCell ⟨wd.heap.size,2,none⟩ (.string q3.un)).setCell ⟨wd.heap.size,3,none⟩ (.string q3.he)).setCell ⟨wd.heap.size,4,none⟩ (.slice q3.pa q3.ps.length q3.pc)).heap.size) := hqb3.mono (fun b hb => ⟨hb.1,by simp only [World.size_setCell]; exact hb.2.1⟩)
      have xw3 := Ext.refl (((((wC.setCell ⟨wd.heap.size,0,none⟩ (.string q3.nm)).setCell ⟨wd.heap.size,1,none⟩ (.int .i64 q3.k)).setCell ⟨wd.heap.size,2,none⟩ (.string q3.un)).setCell ⟨wd.heap.size,3,none⟩ (.string q3.he)).setCell ⟨wd.heap.size,4,none⟩ (.slice q3.pa q3.ps.length q3.pc))
      refine tk 15 rfl (by kernel_rfl) (fun _ _ _ h => h) rfl (fun w9 hS9 => by go_simp; (try rfl)) hH ?_
      try simp only [Act.put,aT,aZ,aS]
      refine wpAnyH_done (by kernel_rfl) ?_ _
      go_wp2_with fail
      go_meet
      case rel =>
       exact ⟨_,q3,ok3,rfl,rfl,by omega,al,hq3.ext xw3,hqb3.mono (fun b hb => ⟨hb.1,Nat.lt_of_lt_of_le hb.2 xw3.size⟩),hres,hH⟩
  case rest =>
  obtain ⟨nb,q3,ok3,rfl,rfl,hnr,g6,hq3,hqb3,hres,y1⟩ := hcut
  replace hJ := hJ.ext y1
  replace hO := hO.ext y1
  replace xw := xw.trans y1
  replace hqb3 := hqb3
  have hNq2 := hNq
  replace hNq : base ≤ wc.heap.size := by have := y1.size; omega
  clear e0 e1 p0 p1 p2 p3 p4 r0 r1 r2 r3 r4 hbF hbJ PU gF y1
  rcases hres.out with ⟨rfl,hpy⟩ | ⟨rfl,hpy⟩
  rotate_left
  ·have hTk := Lib.hid (hTn.out hpy)
   clear hTg hTn hres hpy
   go_wp2_with fail
   go_ret
   exact ⟨.inr ⟨hTk.out,rfl⟩,xw⟩
  ·have hTk := Lib.hid (hTg.out q3 hpy)
   have hjr : jb ≠ rg := by omega
   have hr0w : w0.heap.size ≤ rg := by omega
   clear hTg hTn hres hpy
   go_wp2_with fail
   refine wp_region_held_drew (S := fun w' => JoinIn jb tn (.slice (some ⟨rg,0,none⟩) L.length cv) w' ∧ FamIn nb q3.nm q3.k q3.un q3.he (.slice q3.pa q3.ps.length q3.pc) w') (by kernel_rfl) ⟨hJ,g6⟩ (fun hH => ?_)
   refine tk 0 rfl (by kernel_rfl) (fun _ _ _ h => h) rfl (fun w9 hS9 => by go_simp; (try rfl)) hH ?_
   try simp only [Act.put,aT,aZ,aS]
   refine tk 1 rfl (by kernel_rfl) (fun _ _ _ h => h) rfl (fun w9 hS9 => by go_simp; (try rfl)) hH ?_
   try simp only [Act.put,aT,aZ,aS]
   refine tk 2 rfl (by kernel_rfl) (fun _ _ _ h => h) rfl (fun w9 hS9 => by go_simp; (try rfl)) hH ?_
   try simp only [Act.put,aT,aZ,aS]
   refine tk 3 rfl (by kernel_rfl) (fun _ _ _ h => h) rfl (fun w9 hS9 => by go_simp; (try rfl)) hH ?_
   try simp only [Act.put,aT,aZ,aS]
   refine tk 4 rfl (by kernel_rfl) (fun _ _ _ h => h) rfl (fun w9 hS9 => by obtain ⟨e0,e1⟩ := hS9.1.cells; obtain ⟨p0,p1,p2,p3,p4⟩ := hS9.2.cells; go_simp; (try rfl)) hH ?_
   try simp only [Act.put,aT,aZ,aS]
   refine tk 5 rfl (by kernel_rfl) (fun _ _ _ h => h) rfl (fun w9 hS9 => by go_simp; (try rfl)) hH ?_
   try simp only [Act.put,aT,aZ,aS]
   refine tk 6 rfl (by kernel_rfl) (fun _ _ _ h => h) rfl (fun w9 hS9 => by obtain ⟨e0,e1⟩ := hS9.1.cells; obtain ⟨p0,p1,p2,p3,p4⟩ := hS9.2.cells; go_simp; (try rfl)) hH ?_
   try simp only [Act.put,aT,aZ,aS]
   refine tk 7 rfl (by kernel_rfl) (fun _ _ _ h => h) rfl (fun w9 hS9 => by obtain ⟨e0,e1⟩ := hS9.1.cells; obtain ⟨p0,p1,p2,p3,p4⟩ := hS9.2.cells; go_simp; (try rfl)) hH ?_
   try simp only [Act.put,aT,aZ,aS]
   obtain ⟨wd,hwd⟩ : ∃ x,wc.drew = x := ⟨_,rfl⟩
   have xd : Ext wc wd := by rw [← hwd]; exact (Ext.refl _).drew
   rw [hwd] at hH ⊢
   clear hwd
   refine wR (rs := [8]) (by kernel_rfl) (by simp) (aR rfl (fun K hK => ?km766S8) aN)
   case km766S8 =>
    rw [if_pos (by rfl)]
    have hOd := hO.ext xd
    obtain ⟨r0,r1,r2,r3,r4⟩ := hOd.rowcells hj'
    have fr := fun o => hOd.free o
    go_simp
    refine hK.out _ _ ⟨((((hH.1.setC rg _ _ hjr).setC rg _ _ hjr).setC rg _ _ hjr).setC rg _ _ hjr).setC rg _ _ hjr,((((hH.2.setC rg _ _ hnr).setC rg _ _ hnr).setC rg _ _ hnr).setC rg _ _ hnr).setC rg _ _ hnr⟩ (fun hH => ?_)
    clear hK K r0 r1 r2 r3 r4 fr
    try simp only [aT,aZ,aS]
    have hO5 := hOd.put hj' (hq3.ext xd) (hqb3.mono (fun b hb => ⟨by have := hb.1; omega,Nat.lt_of_lt_of_le hb.2 xd.size,by have := hb.1; omega⟩))
    have xF := (xw.trans xd).set5' rg (j * 5) hr0w (.string q3.nm) (.int .i64 q3.k) (.string q3.un) (.string q3.he) (.slice q3.pa q3.ps.length q3.pc)
    have hzF : base ≤ wd.heap.size := Nat.le_trans hNq xd.size
    refine wpAnyH_done (by kernel_rfl) ?_ _
    go_wp2_with fail
    go_ret
    exact ⟨.inl ⟨_,_,hTk.out,rfl,hH.1,by first | exact hO5 | simpa using hO5,by simp only [World.size_setCell]; exact hzF⟩,xF⟩
end Go.Proofs.YtjjnmefihdjglaaGreat
