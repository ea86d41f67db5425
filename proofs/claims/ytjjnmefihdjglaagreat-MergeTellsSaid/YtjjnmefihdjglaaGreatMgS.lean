import Derived.Test.YtjjnmefihdjglaaGreatMgR
set_option maxRecDepth 100000
set_option maxHeartbeats 64000000
set_option linter.all false
namespace Go.Proofs.YtjjnmefihdjglaaGreat
open Go.RowKit
theorem goodF_sm {f : FamY} (h : goodF f = true) (hp : f.ps.length ≤ 1000) : f.Sm := by
 have g := (goodF_iff f).1 h
 obtain ⟨⟨h1,_,h3,h4⟩,h5,_⟩ := g
 unfold nameB at h1
 unfold valueB at h3 h4
 simp only [Bool.and_eq_true,decide_eq_true_eq] at h1 h3 h4
 refine ⟨by omega,by omega,by omega,hp,fun q hq => ?_⟩
 have := h5 q hq
 unfold goodY goodPt goodLs at this
 simp only [Bool.and_eq_true,decide_eq_true_eq] at this
 omega
theorem ten_size {t : ByteArray} (h : tenB t = true) : t.size ≤ 16 := by
 unfold tenB at h
 simp only [Bool.and_eq_true,decide_eq_true_eq] at h
 exact h.2.2
theorem mergeY_good (bs : List (ByteArray × List FamY)) : (mergeY bs).2 = (⟨#[]⟩,[]) ∨ GoodB (mergeY bs).2.1 (mergeY bs).2.2 := by
 cases bs with
 | nil => exact .inl rfl
 | cons b0 l =>
   rcases merge_cases b0 l with ⟨_,e⟩ | ⟨hc,⟨_,e⟩ | ⟨hn,⟨_,e⟩ | ⟨N,hr,hN,ho,e⟩⟩⟩
   ·rw [e]; exact .inl rfl
   ·rw [e]; exact .inl rfl
   ·rw [e]; exact .inl rfl
   ·by_cases hz : N.length ≤ 30 ∧ ptsN N ≤ 120
    ·rw [e,if_pos hz]
     have hb : tenB b0.1 = true := ten_of (hc b0 (by simp))
     exact .inr (goodB_of hb hr hN hz)
    ·rw [e,if_neg hz]; exact .inl rfl
def Low (t : ByteArray) (l : List FamD) : Prop := l.length ≤ 1000 ∧ t.size ≤ 1000 ∧ ∀ f ∈ l,f.y.Sm
theorem Low.big {t : ByteArray} {l : List FamD} (h : Low t l) : l.length ≤ 1000000 ∧ t.size ≤ 1000000 ∧ ∀ f ∈ l,f.y.Sm := ⟨by have := h.1; omega,by have := h.2.1; omega,h.2.2⟩
theorem GoodB.low {t : ByteArray} {l : List FamD} (h : GoodB t (l.map FamD.y)) : Low t l := by
 refine ⟨by have := h.len; rw [List.length_map] at this; omega,by have := ten_size h.ten; omega,fun f hf => ?_⟩
 have hm : f.y ∈ l.map FamD.y := List.mem_map_of_mem hf
 refine goodF_sm (h.good _ hm) ?_
 have := ptsN_mem hm
 have := h.pts
 omega
def MergeIs (bs : List (ByteArray × List FamY)) (e : Ending) (w' : World) : Prop :=
 ∃ (r : Int) (tn : ByteArray) (a : Option Addr) (c : Nat) (L : List FamD),mergeY bs = (r,tn,L.map FamD.y) ∧ e = .returned (.tuple #[.agg #[.string tn,.slice a L.length c],.int .i64 r]) ∧ FamsA a L w' ∧ Low tn L
theorem MergeTold.mis {bs : List (ByteArray × List FamY)} {base : Nat} {e : Ending} {w' : World} (h : MergeTold bs base e w') : MergeIs bs e w' := by
 obtain ⟨r,tn,a,c,L,h1,h2,h3⟩ := h
 obtain ⟨a',c',h4,h5⟩ := h3.fams
 injection h4 with q1 q2 q3
 subst q1
 refine ⟨r,tn,a,c,L,h1,h2,h5,?_⟩
 rcases mergeY_good bs with k | k
 ·rw [h1] at k
  injection k with k1 k2
  have : L = [] := by cases L with
   | nil => rfl
   | cons x l => cases k2
  subst this k1
  exact ⟨by simp,by show (0 : Nat) ≤ 1000; decide,fun f hf => by cases hf⟩
 ·rw [h1] at k
  exact k.low
theorem MergeIs.is {bs : List (ByteArray × List FamY)} {e : Ending} {w' : World} (h : MergeIs bs e w') {r : Int} {tn : ByteArray} {M : List FamY} (hm : mergeY bs = (r,tn,M)) :
  ∃ (a : Option Addr) (c : Nat) (L : List FamD),L.map FamD.y = M ∧ e = .returned (.tuple #[.agg #[.string tn,.slice a L.length c],.int .i64 r]) ∧ FamsA a L w' ∧ Low tn L := by
 obtain ⟨r',tn',a,c,L,h1,h2,h3⟩ := h
 rw [hm] at h1
 injection h1 with h4 h5
 injection h5 with h5 h6
 subst h4 h5
 exact ⟨a,c,L,h6.symm,h2,h3⟩
end Go.Proofs.YtjjnmefihdjglaaGreat
