import Derived.Test.YtjjnmefihdjglaaGreatRsC
import Derived.Test.YtjjnmefihdjglaaGreatMgP
set_option maxRecDepth 100000
set_option maxHeartbeats 64000000
set_option linter.all false
namespace Go.Proofs.YtjjnmefihdjglaaGreat
open Go.RowKit
theorem OwnR.join1 {E : Type} {K : Nat} {T : TypeId} {cs : E → List Value} {base : Nat} {v : Value} {L : List E} {z q : E} {W : World} (h : OwnR K T cs base v (L.length + 1) (joinF L.length (fun i => L[i]?.getD z) (fun _ => q)) W) :
  OwnR K T cs base v (L ++ [q]).length (fun i => (L ++ [q])[i]?.getD z) W := by
 rw [List.length_append,List.length_singleton]
 refine h.congr (fun i hi => ?_)
 unfold joinF
 by_cases e : i < L.length
 ·rw [if_pos e,List.getElem?_append_left e]
 ·rw [if_neg e,List.getElem?_append_right (by omega),show i - L.length = 0 from by omega]
  rfl
theorem fD_eqv {a b c : PtD} (h1 : fD a b = 0) (h2 : fD b c = 0) : fD a c = 0 := (fD_cmp.same h1 c).trans h2
theorem fD_sym {a b : PtD} (h : fD a b = 0) : fD b a = 0 := by have := fD_cmp.anti a b; omega
def RepOf (G : List PtD) (p c : PtD) : Prop := (c = p ∧ ∀ y ∈ G,fD p y ≠ 0) ∨ (c ∈ G ∧ fD p c = 0)
theorem RepOf.like {G : List PtD} {p c : PtD} (h : RepOf G p c) : fD p c = 0 := by
 rcases h with ⟨rfl,_⟩ | ⟨_,h⟩
 ·exact fD_cmp.refl _
 ·exact h
def inFs (F : List PtD) (y : PtD) : Bool := F.any (fun p => fD p y == 0)
theorem inFs_iff (F : List PtD) (y : PtD) : inFs F y = true ↔ ∃ p ∈ F,fD p y = 0 := by
 unfold inFs
 rw [List.any_eq_true]
 simp
structure Reps (F G O : List PtD) : Prop where
 len : O.length = F.length
 rep : ∀ i (h : i < F.length) (h' : i < O.length),RepOf G F[i] O[i]
theorem ne_nodup {L : List PtY} (h : L.Pairwise (fun x y => cmpY x y ≠ 0)) : L.Nodup :=
 List.Pairwise.imp (fun {x y} hxy e => hxy (by rw [e]; exact cmpY_cmp.refl y)) h
theorem Reps.pw {F G O : List PtD} (h : Reps F G O) (hF : Ris fD F) (hG : Ris fD G) : (O ++ G.filter (fun y => !(inFs F y))).Pairwise (fun x y => fD x y ≠ 0) := by
 have hg := List.pairwise_iff_getElem.1 hF
 rw [List.pairwise_append]
 refine ⟨List.pairwise_iff_getElem.2 (fun i j hi hj hij e => ?_),List.Pairwise.imp (fun {x y} k => by omega) (List.Pairwise.filter _ hG),fun x hx y hy e => ?_⟩
 ·have h1 := (h.rep i (by have := h.len; omega) hi).like
  have h2 := (h.rep j (by have := h.len; omega) hj).like
  have h3 := fD_eqv (fD_eqv h1 e) (fD_sym h2)
  have h4 := hg i j (by have := h.len; omega) (by have := h.len; omega) hij
  omega
 ·obtain ⟨i,hi,rfl⟩ := List.getElem_of_mem hx
  have h1 := (h.rep i (by have := h.len; omega) hi).like
  have h2 := (List.mem_filter.1 hy).2
  have h3 : inFs F y = true := (inFs_iff F y).2 ⟨F[i]'(by have := h.len; omega),List.getElem_mem _,fD_eqv h1 e⟩
  rw [h3] at h2
  cases h2
theorem ris_same {G : List PtD} (hG : Ris fD G) {x y : PtD} (hx : x ∈ G) (hy : y ∈ G) (e : fD x y = 0) : x = y := by
 obtain ⟨i,hi,rfl⟩ := List.getElem_of_mem hx
 obtain ⟨j,hj,rfl⟩ := List.getElem_of_mem hy
 have hg := List.pairwise_iff_getElem.1 hG
 rcases Nat.lt_trichotomy i j with h | h | h
 ·have := hg i j hi hj h; omega
 ·subst h; rfl
 ·have := hg j i hj hi h
  have := fD_sym e
  omega
theorem Reps.perm {F G O : List PtD} (h : Reps F G O) (hF : Ris fD F) (hG : Ris fD G) :
  ((O ++ G.filter (fun y => !(inFs F y))).map PtD.y).Perm (G.map PtD.y ++ (F.map PtD.y).filter (fun p => !(likeIn p (G.map PtD.y)))) := by
 have hF' := (ris_fD F).1 hF
 have hG' := (ris_fD G).1 hG
 have n1 : ((O ++ G.filter (fun y => !(inFs F y))).map PtD.y).Nodup := ne_nodup (by rw [List.pairwise_map]; exact h.pw hF hG)
 have n2 : (G.map PtD.y ++ (F.map PtD.y).filter (fun p => !(likeIn p (G.map PtD.y)))).Nodup := ne_nodup (by
  rw [List.pairwise_append]
  refine ⟨List.Pairwise.imp (fun {x y} h => by omega) hG',List.Pairwise.imp (fun {x y} h => by omega) (List.Pairwise.filter _ hF'),fun x hx y hy e => ?_⟩
  have h1 := (List.mem_filter.1 hy).2
  have h2 : likeIn y (G.map PtD.y) = true := (likeIn_iff y _).2 ⟨x,hx,by have := cmpY_cmp.anti x y; omega⟩
  rw [h2] at h1
  cases h1)
 have nl : ∀ p : PtD,likeIn p.y (G.map PtD.y) = false ↔ ∀ y ∈ G,fD p y ≠ 0 := fun p => by
  constructor
  ·intro h0 y hy e
   rw [(likeIn_iff p.y _).2 ⟨y.y,List.mem_map_of_mem hy,e⟩] at h0
   cases h0
  ·intro h0
   cases e : likeIn p.y (G.map PtD.y)
   ·rfl
   ·obtain ⟨z,hz,hc⟩ := (likeIn_iff _ _).1 e
    obtain ⟨y,hy,rfl⟩ := List.mem_map.1 hz
    exact absurd hc (h0 y hy)
 refine (List.perm_ext_iff_of_nodup n1 n2).2 (fun x => ?_)
 rw [List.map_append,List.mem_append,List.mem_append,List.mem_filter,Bool.not_eq_true']
 constructor
 ·rintro (hx | hx)
  ·obtain ⟨c,hc,rfl⟩ := List.mem_map.1 hx
   obtain ⟨i,hi,rfl⟩ := List.getElem_of_mem hc
   have hi' : i < F.length := by have := h.len; omega
   rcases h.rep i hi' hi with ⟨e,hn⟩ | ⟨hm,_⟩
   ·rw [e]
    exact .inr ⟨List.mem_map_of_mem (List.getElem_mem hi'),(nl _).2 hn⟩
   ·exact .inl (List.mem_map_of_mem hm)
  ·obtain ⟨y,hy,rfl⟩ := List.mem_map.1 hx
   exact .inl (List.mem_map_of_mem (List.mem_filter.1 hy).1)
 ·rintro (hx | ⟨hx,hn⟩)
  ·obtain ⟨y,hy,rfl⟩ := List.mem_map.1 hx
   cases e : inFs F y
   ·exact .inr (List.mem_map_of_mem (List.mem_filter.2 ⟨hy,by rw [e]; rfl⟩))
   ·obtain ⟨p,hp,hpy⟩ := (inFs_iff F y).1 e
    obtain ⟨i,hi,rfl⟩ := List.getElem_of_mem hp
    have hi' : i < O.length := by have := h.len; omega
    left
    rcases h.rep i hi hi' with ⟨_,hn⟩ | ⟨hm,hc⟩
    ·exact absurd hpy (hn y hy)
    ·rw [← ris_same hG hm hy (fD_eqv (fD_sym hc) hpy)]
     exact List.mem_map_of_mem (List.getElem_mem hi')
  ·obtain ⟨p,hp,rfl⟩ := List.mem_map.1 hx
   obtain ⟨i,hi,rfl⟩ := List.getElem_of_mem hp
   have hi' : i < O.length := by have := h.len; omega
   left
   rcases h.rep i hi hi' with ⟨e,_⟩ | ⟨hm,hc⟩
   ·rw [← e]
    exact List.mem_map_of_mem (List.getElem_mem hi')
   ·exact absurd hc ((nl _).1 hn _ hm)
theorem dput_is {f g : FamD} {O : List PtD} {un he : ByteArray} (hgf : goodF f.y = true) (hgg : goodF g.y = true) (hn : f.nm = g.nm) (hk : f.k = g.k) (h : Reps f.ps g.ps O)
  (hu : un = if g.un.toList.isEmpty = true then f.un else g.un) (hh : he = if g.he.toList.isEmpty = true then f.he else g.he) :
  srt ⟨f.nm,f.k,un,he,(O ++ g.ps.filter (fun y => !(inFs f.ps y))).map PtD.y⟩ = putY f.y g.y := by
 obtain ⟨r,e,hr⟩ := putY_some hgf hgg hn hk
 have hs := srt_is (putY_is e).2.2.2.2
 have hF : Ris fD f.ps := (ris_fD _).2 (goodF_ris hgf)
 have hG : Ris fD g.ps := (ris_fD _).2 (goodF_ris hgg)
 have hp : r.ps.Perm ((O ++ g.ps.filter (fun y => !(inFs f.ps y))).map PtD.y) := hs.2.2.2.2.1.trans (h.perm hF hG).symm
 rw [e,srt_some (f := ⟨f.nm,f.k,un,he,(O ++ g.ps.filter (fun y => !(inFs f.ps y))).map PtD.y⟩) hp hs.2.2.2.2.2]
 obtain ⟨rn,rk,ru,rh,rp⟩ := r
 have q1 : rn = f.nm := (show rn = g.nm from hr.nm).trans hn.symm
 have q2 : rk = f.k := (show rk = g.k from hr.k).trans hk.symm
 have q3 : ru = un := (show ru = _ from hr.un).trans hu.symm
 have q4 : rh = he := (show rh = _ from hr.he).trans hh.symm
 subst q1 q2 q3 q4
 rfl
end Go.Proofs.YtjjnmefihdjglaaGreat
