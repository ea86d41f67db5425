import Derived.Test.YtjjnmefihdjglaaGreatRsF
import Derived.Test.YtjjnmefihdjglaaGreatKU
set_option maxRecDepth 100000
set_option maxHeartbeats 64000000
set_option linter.all false
namespace Go.Proofs.YtjjnmefihdjglaaGreat
open Go.RowKit
def FamP (rb : Option Nat) (f : FamD) (w : World) : Prop := 0 < f.ps.length → ∃ b o,f.pa = some ⟨b,o,none⟩ ∧ some b ≠ rb ∧ b < w.heap.size ∧ PtsAt b o f.ps w
theorem FamP.keep {rb rb' : Option Nat} {f : FamD} {w w' : World} (h : FamP rb f w) (hz : w.heap.size ≤ w'.heap.size) (hk : ∀ b,b < w.heap.size → some b ≠ rb → w'.heap[b]? = w.heap[b]? ∧ some b ≠ rb') : FamP rb' f w' := fun h0 => by
 obtain ⟨b,o,e,h1,h2,h3⟩ := h h0
 obtain ⟨h4,h5⟩ := hk b h2 h1
 refine ⟨b,o,e,h5,Nat.lt_of_lt_of_le h2 hz,fun i hi => ?_⟩
 have c : ∀ o',w'.cell? ⟨b,o',none⟩ = w.cell? ⟨b,o',none⟩ := fun o' => World.cell?_of_block h4
 obtain ⟨c0,c1,c2,c3,c4,c5,c6,c7,c8⟩ := h3 i hi
 exact ⟨(c _).trans c0,(c _).trans c1,(c _).trans c2,(c _).trans c3,(c _).trans c4,(c _).trans c5,(c _).trans c6,(c _).trans c7,(c _).trans c8⟩
theorem FamP.ext {rb : Option Nat} {f : FamD} {w w' : World} (h : FamP rb f w) (x : Ext w w') : FamP rb f w' := h.keep x.size (fun b hb hn => ⟨x.heap hb,hn⟩)
theorem FamP.of {f : FamD} {w W : World} {rb : Option Nat} (h : PtsA f.pa f.ps w) (x : Ext w W) (hr : ∀ g,rb = some g → w.heap.size ≤ g) : FamP rb f W := fun h0 => by
 obtain ⟨b,o,e,hb,hT⟩ := h.1 h0
 obtain ⟨b',o',e',hb',hT'⟩ := (h.ext x).1 h0
 rw [e] at e'
 injection e' with e'
 injection e' with e1 e2
 subst e1 e2
 exact ⟨b,o,e,(fun k => by have := hr b k.symm; omega),hb',hT'⟩
theorem RowP.famP {base g : Nat} {f : FamD} {w : World} (h : RowP base f.pa f.ps w) (hg : g < base) : FamP (some g) f w := fun h0 => by
 obtain ⟨b,o,e,h1,h2,h3⟩ := h h0
 exact ⟨b,o,e,(fun k => by injection k with k; omega),h2,h3⟩
structure Fams (N : Nat) (w0 : World) (v : Value) (L : List FamD) (W : World) : Prop where
 row : OwnR 5 35 FamD.cs N v L.length (fun i => L[i]?.getD FamD.zero) W
 pts : ∀ f ∈ L,FamP v.ownBlock f W
 ok : ∀ f ∈ L,∀ p ∈ f.ps,p.Ok w0
theorem Fams.nil (N : Nat) (w0 W : World) : Fams N w0 (.slice none 0 0) [] W := ⟨OwnR.nil _ _ _,(fun f hf => by cases hf),fun f hf => by cases hf⟩
theorem Fams.ext {N : Nat} {w0 : World} {v : Value} {L : List FamD} {W W' : World} (h : Fams N w0 v L W) (x : Ext W W') : Fams N w0 v L W' := ⟨h.row.ext x,fun f hf => (h.pts f hf).ext x,h.ok⟩
theorem Fams.ptsA {N : Nat} {w0 : World} {v : Value} {L : List FamD} {W : World} (h : Fams N w0 v L W) (x : Ext w0 W) : ∀ f ∈ L,PtsA f.pa f.ps W := fun f hf =>
 ⟨fun h0 => by
   obtain ⟨b,o,e,_,h1,h2⟩ := h.pts f hf h0
   exact ⟨b,o,e,h1,h2⟩,fun p hp => (h.ok f hf p hp).ext x⟩
theorem Fams.fams {N : Nat} {w0 : World} {v : Value} {L : List FamD} {W : World} (h : Fams N w0 v L W) (x : Ext w0 W) : ∃ a c,v = .slice a L.length c ∧ FamsA a L W := h.row.fams rfl (h.ptsA x)
theorem Fams.push {N : Nat} {w0 : World} {v v' : Value} {L : List FamD} {f : FamD} {W w4 : World} (h : Fams N w0 v L W) (hf : FamP v.ownBlock f W) (ho : ∀ p ∈ f.ps,p.Ok w0)
  (h1 : OwnR 5 35 FamD.cs N v' (L.length + 1) (joinF L.length (fun i => L[i]?.getD FamD.zero) (fun _ => f)) w4) (h2 : W.grownBy w4 v.ownBlock) (h3 : v'.ownBlock = v.ownBlock ∨ v'.ownBlock = some W.heap.size) : Fams N w0 v' (L ++ [f]) w4 := by
 have hk : ∀ b,b < W.heap.size → some b ≠ v.ownBlock → w4.heap[b]? = W.heap[b]? ∧ some b ≠ v'.ownBlock := fun b hb hn => by
  refine ⟨h2.block b hb hn,?_⟩
  rcases h3 with e | e
  ·rw [e]; exact hn
  ·rw [e]; intro k; injection k with k; omega
 refine ⟨OwnR.join1 h1,fun g hg => ?_,fun g hg => ?_⟩
 ·rcases List.mem_append.1 hg with hg | hg
  ·exact (h.pts g hg).keep h2.size hk
  ·rw [List.mem_singleton] at hg
   subst hg
   exact hf.keep h2.size hk
 ·rcases List.mem_append.1 hg with hg | hg
  ·exact h.ok g hg
  ·rw [List.mem_singleton] at hg
   subst hg
   exact ho
theorem Fams.put {N : Nat} {w0 : World} {g cap j : Nat} {L : List FamD} {q : FamD} {W : World} (h : Fams N w0 (.slice (some ⟨g,0,none⟩) L.length cap) L W) (hj : j < L.length) (hq : FamP (some g) q W) (ho : ∀ p ∈ q.ps,p.Ok w0) :
  Fams N w0 (.slice (some ⟨g,0,none⟩) L.length cap) (L.set j q) (((((W.setCell ⟨g,j * 5,none⟩ (.string q.nm)).setCell ⟨g,j * 5 + 1,none⟩ (.int .i64 q.k)).setCell ⟨g,j * 5 + 2,none⟩ (.string q.un)).setCell ⟨g,j * 5 + 3,none⟩ (.string q.he)).setCell ⟨g,j * 5 + 4,none⟩ (.slice q.pa q.ps.length q.pc)) := by
 have hE : W.setCells g (j * 5) (FamD.cs q) = (((((W.setCell ⟨g,j * 5,none⟩ (.string q.nm)).setCell ⟨g,j * 5 + 1,none⟩ (.int .i64 q.k)).setCell ⟨g,j * 5 + 2,none⟩ (.string q.un)).setCell ⟨g,j * 5 + 3,none⟩ (.string q.he)).setCell ⟨g,j * 5 + 4,none⟩ (.slice q.pa q.ps.length q.pc)) := by
  simp only [FamD.cs,World.setCells]
 rw [← hE]
 have hgr := grownBy_setCells W g (j * 5) (FamD.cs q)
 have hk : ∀ b,b < W.heap.size → some b ≠ some g → (W.setCells g (j * 5) (FamD.cs q)).heap[b]? = W.heap[b]? ∧ some b ≠ some g := fun b hb hn => ⟨hgr.block b hb hn,hn⟩
 refine ⟨?_,fun f hf => ?_,fun f hf => ?_⟩
 ·rw [List.length_set]
  refine (h.row.setK hj q).congr (fun i hi => ?_)
  by_cases e : i = j
  ·subst e
   rw [if_pos rfl]
   simp [hi]
  ·rw [if_neg e,List.getElem?_set_ne (fun h => e h.symm)]
 ·rcases List.mem_or_eq_of_mem_set hf with hf | rfl
  ·exact (h.pts f hf).keep hgr.size hk
  ·exact hq.keep hgr.size hk
 ·rcases List.mem_or_eq_of_mem_set hf with hf | rfl
  ·exact h.ok f hf
  ·exact ho
theorem takeY_no {L : List FamY} {f : FamY} (h : ∀ x ∈ L,x.nm ≠ f.nm) : takeY L f = some (L ++ [f]) := by
 unfold takeY
 rw [nmAt_none h,if_pos (by decide)]
theorem takeY_at {L : List FamY} {f : FamY} (hd : Dst L) {j : Nat} (hj : j < L.length) (e : L[j].nm = f.nm) : takeY L f = (putY L[j] f).map (fun g => L.set j g) := by
 have hn : nmAt f.nm 0 L = (j : Int) := by
  rcases nmAt_cases f.nm L 0 with ⟨_,h⟩ | ⟨i,hi,h,e2⟩
  ·exact absurd e (h _ (List.getElem_mem hj))
  ·rw [h,Nat.zero_add]
   rcases Nat.lt_trichotomy i j with k | k | k
   ·exact absurd (e2.trans e.symm) (List.pairwise_iff_getElem.1 hd i j hi hj k)
   ·rw [k]
   ·exact absurd (e.trans e2.symm) (List.pairwise_iff_getElem.1 hd j i hj hi k)
 unfold takeY
 rw [hn,if_neg (by omega)]
 simp [hj]
theorem takesY_dst : ∀ (fs L : List FamY) {M : List FamY},Dst L → takesY L fs = some M → Dst M
 | [],L,M,hd,h => by injection h with h; subst h; exact hd
 | f :: fs,L,M,hd,h => by
   rw [takesY] at h
   rcases takeY_look hd f with ⟨M1,h1,d1,_⟩ | ⟨h1,_⟩
   ·rw [h1,Option.bind_some] at h
    exact takesY_dst fs M1 d1 h
   ·rw [h1] at h; cases h
end Go.Proofs.YtjjnmefihdjglaaGreat
