import Derived.Test.YtjjnmefihdjglaaGreatKL
set_option maxRecDepth 100000
set_option maxHeartbeats 64000000
set_option linter.all false
namespace Go.Proofs.YtjjnmefihdjglaaGreat
open Go.RowKit
structure Sta (P : Nat → Prop) (w w' : World) : Prop where
 size : w.heap.size ≤ w'.heap.size
 blk : ∀ j,j < w.heap.size → P j → w'.heap[j]? = w.heap[j]?
theorem Ext.sta {w w' : World} (x : Ext w w') (P : Nat → Prop) : Sta P w w' := ⟨x.size,fun _ hj _ => x.heap hj⟩
theorem sta_grown {w w' : World} {r : Option Nat} (g : w.grownBy w' r) : Sta (fun j => ∀ k,r = some k → j ≠ k) w w' := ⟨g.size,fun j hj hn => g.block j hj (fun e => hn j e.symm rfl)⟩
theorem ExtB.sta {g : Nat} {w w' : World} (x : ExtB g w w') : Sta (fun j => j ≠ g) w w' := ⟨x.size,x.blk⟩
theorem sta_setC (w : World) (b o : Nat) (u : Value) : Sta (fun j => j ≠ b) w (w.setCell ⟨b,o,none⟩ u) := by
 refine ⟨by rw [World.size_setCell]; exact Nat.le_refl _,fun j _ hn => ?_⟩
 unfold World.setCell
 simp only [Array.getElem?_modify]
 rw [if_neg (fun e => hn e.symm)]
theorem Sta.cell {P : Nat → Prop} {w w' : World} (s : Sta P w w') {p : Addr} (hp : p.block < w.heap.size) (hn : P p.block) : w'.cell? p = w.cell? p := by
 unfold World.cell?
 rw [s.blk _ hp hn]
theorem LabA.sta {P : Nat → Prop} {a : Option Addr} {l : List (ByteArray × ByteArray)} {w w' : World} (h : LabA a l w) (s : Sta P w w') (ha : ∀ x,a = some x → P x.block) : LabA a l w' := fun h0 => by
 obtain ⟨b,o,e,hb,hl⟩ := h h0
 have hn := ha _ e
 exact ⟨b,o,e,Nat.lt_of_lt_of_le hb s.size,fun i hi => ⟨(s.cell (p := ⟨b,o + i * 2,none⟩) hb hn).trans (hl i hi).1,(s.cell (p := ⟨b,o + i * 2 + 1,none⟩) hb hn).trans (hl i hi).2⟩⟩
theorem PtD.Ok.sta {P : Nat → Prop} {p : PtD} {w w' : World} (h : p.Ok w) (s : Sta P w w') (ha : ∀ x,p.a = some x → P x.block) : p.Ok w' := ⟨h.1,h.2.1.sta s ha,h.2.2⟩
theorem PtsA.sta {P : Nat → Prop} {a : Option Addr} {l : List PtD} {w w' : World} (h : PtsA a l w) (s : Sta P w w') (ha : ∀ x,a = some x → P x.block) (hl : ∀ p ∈ l,∀ x,p.a = some x → P x.block) : PtsA a l w' := by
 refine ⟨fun h0 => ?_,fun p hp => (h.2 p hp).sta s (hl p hp)⟩
 obtain ⟨b,o,e,hb,hL⟩ := h.1 h0
 have hn := ha _ e
 refine ⟨b,o,e,Nat.lt_of_lt_of_le hb s.size,fun i hi => ?_⟩
 obtain ⟨c0,c1,c2,c3,c4,c5,c6,c7,c8⟩ := hL i hi
 have C := fun (o : Nat) => s.cell (p := ⟨b,o,none⟩) hb hn
 exact ⟨(C _).trans c0,(C _).trans c1,(C _).trans c2,(C _).trans c3,(C _).trans c4,(C _).trans c5,(C _).trans c6,(C _).trans c7,(C _).trans c8⟩
structure FamD.Blk (f : FamD) (P : Nat → Prop) : Prop where
 pa : ∀ x,f.pa = some x → P x.block
 ps : ∀ p ∈ f.ps,∀ x,p.a = some x → P x.block
theorem FamD.Blk.mono {f : FamD} {P Q : Nat → Prop} (h : f.Blk P) (k : ∀ b,P b → Q b) : f.Blk Q := ⟨fun x hx => k _ (h.pa x hx),fun p hp x hx => k _ (h.ps p hp x hx)⟩
theorem OwnP.blk {base : Nat} {a : Option Addr} {c : Nat} {L : List PtD} {W : World} (h : OwnP base (.slice a L.length c) L W) : (∀ x,a = some x → base ≤ x.block ∧ x.block < W.heap.size) ∧ ∀ p ∈ L,∀ x,p.a = some x → base ≤ x.block ∧ x.block < W.heap.size := by
 refine ⟨fun x hx => ?_,fun p hp x hx => ⟨(h.2 p hp).lo x hx,(h.2 p hp).hi x hx⟩⟩
 have := h.1.lt
 rcases h.1 with ⟨e,_⟩ | ⟨g,cap,e,h1,_,cc,h3,_⟩
 ·injection e with e
  rw [e] at hx; cases hx
 ·injection e with e
  rw [e] at hx
  injection hx with hx
  subst hx
  exact ⟨h1,(Array.getElem?_eq_some_iff.1 h3).1⟩
structure FamAt (base : Nat) (v : Value) (W : World) (f : FamD) : Prop where
 ok : PtsA f.pa f.ps W
 at_ : f.Blk (fun b => base ≤ b ∧ b < W.heap.size ∧ ∀ g,v.ownBlock = some g → b ≠ g)
theorem FamAt.sta {P : Nat → Prop} {base : Nat} {v : Value} {W W' : World} {f : FamD} (h : FamAt base v W f) (s : Sta P W W') (hP : f.Blk P) : FamAt base v W' f :=
 ⟨h.ok.sta s hP.pa hP.ps,h.at_.mono fun _ k => ⟨k.1,Nat.lt_of_lt_of_le k.2.1 s.size,k.2.2⟩⟩
theorem FamD.Blk.any (f : FamD) : f.Blk (fun _ => True) := ⟨fun _ _ => trivial,fun _ _ _ _ => trivial⟩
def OwnF (base : Nat) (v : Value) (L : List FamD) (W : World) : Prop :=
 OwnR 5 35 FamD.cs base v L.length (fun i => L[i]?.getD FamD.zero) W ∧ ∀ f ∈ L,FamAt base v W f
theorem OwnF.nil (base : Nat) (W : World) : OwnF base (.slice none 0 0) [] W := ⟨OwnR.nil _ _ _,fun f hf => by cases hf⟩
theorem OwnF.ext {base : Nat} {v : Value} {L : List FamD} {W W' : World} (h : OwnF base v L W) (x : Ext W W') : OwnF base v L W' :=
 ⟨h.1.ext x,fun f hf => (h.2 f hf).sta (x.sta _) (FamD.Blk.any f)⟩
theorem OwnF.mono {base base' : Nat} {v : Value} {L : List FamD} {W : World} (h : OwnF base v L W) (hb : base' ≤ base) : OwnF base' v L W := by
 refine ⟨?_,fun f hf => ⟨(h.2 f hf).ok,(h.2 f hf).at_.mono fun _ k => ⟨Nat.le_trans hb k.1,k.2⟩⟩⟩
 rcases h.1 with h | ⟨g,cap,e1,h1,h2⟩
 ·exact .inl h
 ·exact .inr ⟨g,cap,e1,Nat.le_trans hb h1,h2⟩
theorem OwnF.setC {base : Nat} {v : Value} {L : List FamD} {W : World} (h : OwnF base v L W) (b o : Nat) (u : Value) (hb : b < base) : OwnF base v L (W.setCell ⟨b,o,none⟩ u) := by
 refine ⟨?_,fun f hf => (h.2 f hf).sta (sta_setC W b o u) ((h.2 f hf).at_.mono fun x k => by omega)⟩
 rcases h.1 with h | ⟨g,cap,e1,h1,h2,c,h3,h4⟩
 ·exact .inl h
 ·refine .inr ⟨g,cap,e1,h1,h2,c,?_,h4⟩
  unfold World.setCell
  simp only [Array.getElem?_modify]
  rw [if_neg (by omega)]
  exact h3
theorem OwnF.fams {base : Nat} {v : Value} {L : List FamD} {W : World} (h : OwnF base v L W) : ∃ a c,v = .slice a L.length c ∧ FamsA a L W := h.1.fams rfl (fun f hf => (h.2 f hf).ok)
theorem OwnF.push {base : Nat} {v v' : Value} {L : List FamD} {q : FamD} {w3 w4 : World} (h : OwnF base v L w3) (hq : FamAt base v w3 q)
  (h1 : OwnR 5 35 FamD.cs base v' (L.length + 1) (joinF L.length (fun i => L[i]?.getD FamD.zero) (fun _ => q)) w4) (h2 : w3.grownBy w4 v.ownBlock) (h3 : v'.ownBlock = v.ownBlock ∨ v'.ownBlock = some w3.heap.size) : OwnF base v' (L ++ [q]) w4 := by
 refine ⟨?_,fun p hp => ?_⟩
 ·rw [List.length_append,List.length_singleton]
  refine h1.congr fun i hi => ?_
  unfold joinF
  by_cases e : i < L.length
  ·rw [if_pos e]; simp [e,List.getElem?_append_left]
  ·rw [if_neg e]
   obtain rfl : i = L.length := by omega
   simp
 ·have key : FamAt base v w3 p := by
   rcases List.mem_append.1 hp with hp | hp
   ·exact h.2 p hp
   ·rw [List.mem_singleton] at hp
    subst hp
    exact hq
  have k2 := key.sta (sta_grown h2) (key.at_.mono fun b k g hg => k.2.2 g hg)
  refine ⟨k2.ok,⟨fun x hx => ?_,fun q hq x hx => ?_⟩⟩
  ·have a1 := key.at_.pa x hx
   have a2 := k2.at_.pa x hx
   refine ⟨a1.1,a2.2.1,fun g hg => ?_⟩
   rcases h3 with h3 | h3
   ·rw [h3] at hg; exact a1.2.2 g hg
   ·rw [h3] at hg
    injection hg with hg
    omega
  ·have a1 := key.at_.ps q hq x hx
   have a2 := k2.at_.ps q hq x hx
   refine ⟨a1.1,a2.2.1,fun g hg => ?_⟩
   rcases h3 with h3 | h3
   ·rw [h3] at hg; exact a1.2.2 g hg
   ·rw [h3] at hg
    injection hg with hg
    omega
theorem BatIn.free {b : Nat} {tn : ByteArray} {v : Value} {w : World} (h : BatIn b tn v w) (o : Nat) : w.frozen? ⟨b,o,none⟩ = false := by
 unfold BatIn at h
 unfold World.frozen?
 rw [h]; simp
theorem BatIn.setC {b : Nat} {tn : ByteArray} {v : Value} {w : World} (h : BatIn b tn v w) (b' o : Nat) (u : Value) (hb : b ≠ b') : BatIn b tn v (w.setCell ⟨b',o,none⟩ u) := by
 unfold BatIn World.setCell
 simp only [Array.getElem?_modify]
 rw [if_neg (fun e => hb e.symm)]
 exact h
theorem BatIn.set1 {b : Nat} {tn : ByteArray} {v : Value} {w : World} (h : BatIn b tn v w) (u : Value) : BatIn b tn u (w.setCell ⟨b,1,none⟩ u) := by
 have e := heap_setCells b [u] 1 w _ _ _ h
 rw [show setL #[.string tn,v] 1 [u] = #[.string tn,u] from by simp [setL]] at e
 simp only [World.setCells] at e
 exact e
theorem BatIn.set0 {b : Nat} {tn : ByteArray} {v : Value} {w : World} (h : BatIn b tn v w) (t : ByteArray) : BatIn b t v (w.setCell ⟨b,0,none⟩ (.string t)) := by
 have e := heap_setCells b [.string t] 0 w _ _ _ h
 rw [show setL #[.string tn,v] 0 [.string t] = #[.string t,v] from by simp [setL]] at e
 simp only [World.setCells] at e
 exact e
theorem BatIn.grown {b : Nat} {tn : ByteArray} {v : Value} {w w' : World} {r : Option Nat} (h : BatIn b tn v w) (g : w.grownBy w' r) (hr : ∀ x,r = some x → b ≠ x) : BatIn b tn v w' :=
 (g.block b h.lt (fun e => hr _ e.symm rfl)).trans h
theorem ownBatch_any (tn : ByteArray) (a : Option Addr) (c : Nat) (l : List FamD) (w : World) (hl : l.length ≤ 1000) (hA : FamsA a l w) (hs : ∀ f ∈ l,f.y.Sm) :
  Calls Tryz.prog 48 #[.agg #[.string tn,.slice a l.length c]] w fun e w' => (∃ v L,e = .returned (.agg #[.string tn,v]) ∧ L.map FamD.y = l.map FamD.y ∧ OwnF w.heap.size v L w') ∧ Ext w w' := by
 obtain ⟨W,hW⟩ : ∃ W,(w.alloc (.cells #[.string tn,.slice a l.length c] 27)).alloc (.cells #[.string ⟨#[]⟩,.slice none 0 0] 27) = W := ⟨_,rfl⟩
 have x1 : Ext w W := by rw [← hW]; exact ((Ext.refl w).alloc _).alloc _
 have g1 : BatIn w.heap.size tn (.slice a l.length c) W := by rw [← hW]; exact heap_at2a _ _ _
 have g2 : BatIn (w.heap.size + 1) ⟨#[]⟩ (.slice none 0 0) W := by rw [← hW]; exact heap_at2b _ _ _
 have hWz : w.heap.size + 2 ≤ W.heap.size := by rw [← hW]; simp
 replace hW := Lib.hid hW
 replace hA := hA.ext x1
 obtain ⟨c0,c1⟩ := g1.cells
 go_enter Tryz.func48,Tryz.ntmps48
 go_wp2_with fail
 rw [hW.out]
 clear hW c0 c1
 go_loopw [3,9] (fun o i wr => ∃ (k : Nat) (L : List FamD),i = .int .i64 k ∧ k ≤ l.length ∧ Hid (L.map FamD.y = (l.take k).map FamD.y) ∧ OwnF W.heap.size o L wr ∧ Ext W wr) (fun _ i _ => l.length - (intOf i).toNat)
 case atStart => exact ⟨0,[],rfl,Nat.zero_le _,Lib.hid rfl,OwnF.nil _ _,Ext.refl _⟩
 case round =>
  obtain ⟨k,L,rfl,hk,hQ,hO,xr⟩ := hrel
  by_cases hlt : k < l.length
  ·obtain ⟨b,o,rfl,hb,hP⟩ := hA.1 (by omega)
   have ok := (hA.2 _ (List.getElem_mem hlt)).ext xr
   have sm := hs _ (List.getElem_mem hlt)
   obtain ⟨p0,p1,p2,p3,p4⟩ := hP k hlt
   obtain ⟨p,hp⟩ : ∃ p,l[k] = p := ⟨_,rfl⟩
   rw [hp] at p0 p1 p2 p3 p4 ok sm
   replace p0 := (Ext.cell xr hb).trans p0
   replace p1 := (Ext.cell xr hb).trans p1
   replace p2 := (Ext.cell xr hb).trans p2
   replace p3 := (Ext.cell xr hb).trans p3
   replace p4 := (Ext.cell xr hb).trans p4
   have PT := fun W (x : Ext wr W) => ownFam_any p.nm p.k p.un p.he p.pa p.pc p.ps W sm.pl sm.ll (ok.ext x)
   have hL2 : L.length = k := by have := congrArg List.length hQ.out; simpa [Nat.min_eq_left hk] using this
   have hQ2 : ∀ q : FamD,q.y = p.y → Hid ((L ++ [q]).map FamD.y = (l.take (k + 1)).map FamD.y) := fun q hy => Lib.hid (by
    rw [List.map_append,hQ.out,List.take_add_one,List.map_append,List.getElem?_eq_getElem hlt,hp]
    simp [hy])
   replace hL2 := Lib.hid hL2
   clear hQ hp hP hA hs
   go_wp2_with fail
   have x1 := (Ext.refl wr).alloc (.cells #[.string p.nm,.int .i64 p.k,.string p.un,.string p.he,.slice p.pa p.ps.length p.pc] 35)
   (with_reducible refine (PT _ x1).mono ?_)
   rintro e w2 ⟨⟨v,LP,rfl,hy,hOP⟩,x2⟩
   obtain ⟨a',c',rfl,hPts⟩ := hOP.pts
   obtain ⟨q,hq⟩ : ∃ q : FamD,FamD.mk p.nm p.k p.un p.he a' c' LP = q := ⟨_,rfl⟩
   have hqy : q.y = p.y := by rw [← hq]; unfold FamD.y; rw [hy]
   have hqb : q.Blk (fun b => wr.heap.size < b ∧ b < w2.heap.size) := by
    have := hOP.blk
    rw [heap_size_alloc] at this
    rw [← hq]
    exact ⟨fun x hx => this.1 x hx,fun p hp x hx => this.2 p hp x hx⟩
   have hqp : PtsA q.pa q.ps w2 := by rw [← hq]; exact hPts
   have e0 : p.nm = q.nm := by rw [← hq]
   have e1 : p.k = q.k := by rw [← hq]
   have e2 : p.un = q.un := by rw [← hq]
   have e3 : p.he = q.he := by rw [← hq]
   have e4 : Value.slice a' LP.length c' = .slice q.pa q.ps.length q.pc := by rw [← hq]
   rw [e0,e1,e2,e3,e4]
   clear e0 e1 e2 e3 e4 hOP hPts hq hy
   have x3 := (x1.trans x2).alloc (.cells #[.string q.nm,.int .i64 q.k,.string q.un,.string q.he,.slice q.pa q.ps.length q.pc] 35)
   have xa := (Ext.refl w2).alloc (.cells #[.string q.nm,.int .i64 q.k,.string q.un,.string q.he,.slice q.pa q.ps.length q.pc] 35)
   have hcell : FamIn w2.heap.size q.nm q.k q.un q.he (.slice q.pa q.ps.length q.pc) (w2.alloc (.cells #[.string q.nm,.int .i64 q.k,.string q.un,.string q.he,.slice q.pa q.ps.length q.pc] 35)) := heap_last _ _
   have hO3 := hO.ext x3
   have hlt3 := hO.1.lt
   obtain ⟨w3,hw3⟩ : ∃ w3,w2.alloc (.cells #[.string q.nm,.int .i64 q.k,.string q.un,.string q.he,.slice q.pa q.ps.length q.pc] 35) = w3 := ⟨_,rfl⟩
   rw [hw3] at x3 xa hcell hO3
   have hs3 : w2.heap.size < w3.heap.size := by rw [← hw3]; simp
   have hs2 : wr.heap.size < w2.heap.size := by have := x2.size; rw [heap_size_alloc] at this; omega
   replace hw3 := Lib.hid hw3
   have hc : ∀ i,i < 1 → ∀ j,j < 5 → w3.cell? ((⟨w2.heap.size,0,none⟩ : Addr).add (i * 5 + j)) = (FamD.cs q)[j]? := by
    intro i hi j hj
    obtain rfl : i = 0 := by omega
    rw [Addr.add_lit,Lib.cell_of_heap hcell]
    match j,hj with
    | 0,_ => rfl
    | 1,_ => rfl
    | 2,_ => rfl
    | 3,_ => rfl
    | 4,_ => rfl
   go_wp2_with (at_builtin; (try rw [hw3.out]); refine wpList_append_structs w3 rfl _ _ rfl tyFam (fun _ => rfl) famC_one (by decide) W.heap.size _ L.length (fun i => L[i]?.getD FamD.zero) rfl hO3.1 ?c2 ⟨w2.heap.size,0,none⟩ 1 1 (fun _ => q) rfl hc ?c3 ?c4 (.inr (by decide)) ?_)
   case c2 => exact Nat.le_trans xr.size x3.size
   case c3 => have := hL2.out; omega
   case c4 => have := hL2.out; omega
   intro v' w4 h1 h2 h3
   have hb3 : FamAt W.heap.size _ w3 q := ⟨hqp.ext xa,hqb.mono fun b hb => ⟨by have := xr.size; omega,by omega,fun g hg => by have := (hlt3 g hg).2; omega⟩⟩
   have hO4 := hO3.push hb3 h1 h2 h3
   have x4 : Ext W w4 := grown_ext' (xr.trans x3) h2 (Nat.le_refl _) (fun g hg => (hlt3 g hg).1)
   have hQ3 := hQ2 q hqy
   clear h1 h2 h3 hO3 hO hQ2 hc hcell hqb hqp hqy
   go_wp2_with fail
   go_roundw
   case rel => exact ⟨k + 1,_,rfl,hlt,hQ3,hO4,x4⟩
   case measure => simp only [intOf]; omega
  ·obtain rfl : k = l.length := by omega
   have hQ2 := hQ.out
   rw [List.take_length] at hQ2
   replace hQ2 := Lib.hid hQ2
   clear hQ hA hs
   obtain ⟨a',c',hv⟩ := hO.1.form
   subst hv
   replace g1 := g1.ext xr
   replace g2 := g2.ext xr
   obtain ⟨c0,c1⟩ := g1.cells
   obtain ⟨d0,d1⟩ := g2.cells
   have fr1 := fun o => g1.free o
   have fr2 := fun o => g2.free o
   have hz1 : w.heap.size ≤ w.heap.size + 1 := Nat.le_succ _
   have XF := (((x1.trans xr).setC w.heap.size 1 (.slice a' L.length c') (Nat.le_refl _)).setC (w.heap.size + 1) 0 (.string tn) hz1).setC (w.heap.size + 1) 1 (.slice a' L.length c') hz1
   have OF := ((hO.setC w.heap.size 1 (.slice a' L.length c') (by omega)).setC (w.heap.size + 1) 0 (.string tn) (by omega)).setC (w.heap.size + 1) 1 (.slice a' L.length c') (by omega)
   clear g1 g2 hO
   go_wp2_with fail
   refine bodyPost_ret (v := .agg #[.string tn,.slice a' L.length c']) ?_ rfl ⟨⟨_,L,rfl,hQ2.out,OF.mono (by omega)⟩,XF⟩
   simp [results,Tryz.results48,go_sem,d0,d1]
end Go.Proofs.YtjjnmefihdjglaaGreat
