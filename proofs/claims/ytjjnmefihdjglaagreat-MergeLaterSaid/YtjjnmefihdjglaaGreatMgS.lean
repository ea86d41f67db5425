import Derived.Test.YtjjnmefihdjglaaGreatMgR
set_option linter.all false
namespace Go.Proofs.YtjjnmefihdjglaaGreat
open Go.RowKit
theorem goodF_sm {f : FamY} (h : goodF f = true) (hp : f.ps.length ≤ 1000) : f.Sm := by
 have g := (goodF_iff f).1 h
 obtain ⟨⟨h1, _, h3, h4⟩, h5, _⟩ := g
 unfold nameB at h1
 unfold valueB at h3 h4
 simp only [Bool.and_eq_true, decide_eq_true_eq] at h1 h3 h4
 refine ⟨by omega, by omega, by omega, hp, fun q hq => ?_⟩
 have := h5 q hq
 unfold goodY goodPt goodLs at this
 simp only [Bool.and_eq_true, decide_eq_true_eq] at this
 omega
theorem ten_size {t : ByteArray} (h : tenB t = true) : t.size ≤ 16 := by
 unfold tenB at h
 simp only [Bool.and_eq_true, decide_eq_true_eq] at h
 exact h.2.2
theorem mergeY_good (bs : List (ByteArray × List FamY)) : (mergeY bs).2 = (⟨#[]⟩, []) ∨ GoodB (mergeY bs).2.1 (mergeY bs).2.2 := by
 cases bs with
 | nil => exact .inl rfl
 | cons b0 l =>
   rcases merge_cases b0 l with ⟨_, e⟩ | ⟨hc, ⟨_, e⟩ | ⟨hn, ⟨_, e⟩ | ⟨N, hr, hN, ho, e⟩⟩⟩
   ·rw [e]; exact .inl rfl
   ·rw [e]; exact .inl rfl
   ·rw [e]; exact .inl rfl
   ·by_cases hz : N.length ≤ 30 ∧ ptsN N ≤ 120
    ·rw [e, if_pos hz]
     have hb : tenB b0.1 = true := ten_of (hc b0 (by simp))
     exact .inr (goodB_of hb hr hN hz)
    ·rw [e, if_neg hz]; exact .inl rfl
def Low (t : ByteArray) (l : List FamD) : Prop := l.length ≤ 1000 ∧ t.size ≤ 1000 ∧ ∀ f ∈ l, f.y.Sm
theorem Low.big {t : ByteArray} {l : List FamD} (h : Low t l) : l.length ≤ 1000000 ∧ t.size ≤ 1000000 ∧ ∀ f ∈ l, f.y.Sm := ⟨by have := h.1; omega, by have := h.2.1; omega, h.2.2⟩
theorem GoodB.low {t : ByteArray} {l : List FamD} (h : GoodB t (l.map FamD.y)) : Low t l := by
 refine ⟨by have := h.len; rw [List.length_map] at this; omega, by have := ten_size h.ten; omega, fun f hf => ?_⟩
 have hm : f.y ∈ l.map FamD.y := List.mem_map_of_mem hf
 refine goodF_sm (h.good _ hm) ?_
 have := ptsN_mem hm
 have := h.pts
 omega
def MergeIs (bs : List (ByteArray × List FamY)) (e : Ending) (w' : World) : Prop :=
 ∃ (r : Int) (tn : ByteArray) (a : Option Addr) (c : Nat) (L : List FamD), mergeY bs = (r, tn, L.map FamD.y) ∧ e = .returned (.tuple #[.agg #[.string tn, .slice a L.length c], .int .i64 r]) ∧ FamsA a L w' ∧ Low tn L
theorem MergeTold.mis {bs : List (ByteArray × List FamY)} {base : Nat} {e : Ending} {w' : World} (h : MergeTold bs base e w') : MergeIs bs e w' := by
 obtain ⟨r, tn, a, c, L, h1, h2, h3⟩ := h
 obtain ⟨a', c', h4, h5⟩ := h3.fams
 injection h4 with q1 q2 q3
 subst q1
 refine ⟨r, tn, a, c, L, h1, h2, h5, ?_⟩
 rcases mergeY_good bs with k | k
 ·rw [h1] at k
  injection k with k1 k2
  have : L = [] := by cases L with
   | nil => rfl
   | cons x l => cases k2
  subst this k1
  exact ⟨by simp, by show (0 : Nat) ≤ 1000; decide, fun f hf => by cases hf⟩
 ·rw [h1] at k
  exact k.low
theorem MergeIs.is {bs : List (ByteArray × List FamY)} {e : Ending} {w' : World} (h : MergeIs bs e w') {r : Int} {tn : ByteArray} {M : List FamY} (hm : mergeY bs = (r, tn, M)) :
  ∃ (a : Option Addr) (c : Nat) (L : List FamD), L.map FamD.y = M ∧ e = .returned (.tuple #[.agg #[.string tn, .slice a L.length c], .int .i64 r]) ∧ FamsA a L w' ∧ Low tn L := by
 obtain ⟨r', tn', a, c, L, h1, h2, h3⟩ := h
 rw [hm] at h1
 injection h1 with h4 h5
 injection h5 with h5 h6
 subst h4 h5
 exact ⟨a, c, L, h6.symm, h2, h3⟩
theorem bats1 {g : Nat} {b1 : BatD} {w : World} (h : w.heap[g]? = some (.cells #[.string b1.tn, .slice b1.fa b1.fs.length b1.fc] 27 (0, 0))) (f1 : FamsA b1.fa b1.fs w) : BatsA (some ⟨g, 0, none⟩) [b1] w := by
 refine ⟨fun _ => ⟨g, 0, rfl, (Array.getElem?_eq_some_iff.1 h).1, fun i hi => ?_⟩, fun x hx => ?_⟩
 ·simp only [Lib.cell_of_heap h]
  match i, hi with
  | 0, _ => exact ⟨rfl, rfl⟩
 ·rw [List.mem_singleton] at hx
  subst hx
  exact f1
theorem merge1_any (t1 : ByteArray) (a1 : Option Addr) (c1 : Nat) (l1 : List FamD) (w : World) (h1 : FamsA a1 l1 w) (z1 : l1.length ≤ 1000000 ∧ t1.size ≤ 1000000 ∧ ∀ f ∈ l1, f.y.Sm) :
  Calls Tryz.prog 12 #[.slice (some ⟨w.heap.size, 0, none⟩) 1 1] (w.alloc (.cells #[.string t1, .slice a1 l1.length c1] 27)) fun e w' => MergeIs [(t1, l1.map FamD.y)] e w' ∧ Ext w w' := by
 have xs := (Ext.refl w).alloc (.cells #[.string t1, .slice a1 l1.length c1] 27)
 have hB := bats1 (b1 := ⟨t1, a1, c1, l1⟩) (heap_last w (.cells #[.string t1, .slice a1 l1.length c1] 27)) (h1.ext xs)
 have ME := merge_any _ 1 _ _ hB (by simp) (fun x hx => by
  simp only [List.mem_cons, List.not_mem_nil, or_false] at hx
  rcases hx with rfl
  exact z1)
 refine ME.mono fun e w' h => ⟨h.1.mis, xs.trans h.2⟩
theorem merge2_any (t1 : ByteArray) (a1 : Option Addr) (c1 : Nat) (l1 : List FamD) (t2 : ByteArray) (a2 : Option Addr) (c2 : Nat) (l2 : List FamD) (w : World) (h1 : FamsA a1 l1 w) (h2 : FamsA a2 l2 w) (z1 : l1.length ≤ 1000000 ∧ t1.size ≤ 1000000 ∧ ∀ f ∈ l1, f.y.Sm) (z2 : l2.length ≤ 1000000 ∧ t2.size ≤ 1000000 ∧ ∀ f ∈ l2, f.y.Sm) :
  Calls Tryz.prog 12 #[.slice (some ⟨w.heap.size, 0, none⟩) 2 2] (w.alloc (.cells #[.string t1, .slice a1 l1.length c1, .string t2, .slice a2 l2.length c2] 27)) fun e w' => MergeIs [(t1, l1.map FamD.y), (t2, l2.map FamD.y)] e w' ∧ Ext w w' := by
 have xs := (Ext.refl w).alloc (.cells #[.string t1, .slice a1 l1.length c1, .string t2, .slice a2 l2.length c2] 27)
 have hB := bats2 (b1 := ⟨t1, a1, c1, l1⟩) (b2 := ⟨t2, a2, c2, l2⟩) (heap_last w (.cells #[.string t1, .slice a1 l1.length c1, .string t2, .slice a2 l2.length c2] 27)) (h1.ext xs) (h2.ext xs)
 have ME := merge_any _ 2 _ _ hB (by simp) (fun x hx => by
  simp only [List.mem_cons, List.not_mem_nil, or_false] at hx
  rcases hx with rfl | rfl
  ·exact z1
  ·exact z2)
 refine ME.mono fun e w' h => ⟨h.1.mis, xs.trans h.2⟩
theorem merge3_any (t1 : ByteArray) (a1 : Option Addr) (c1 : Nat) (l1 : List FamD) (t2 : ByteArray) (a2 : Option Addr) (c2 : Nat) (l2 : List FamD) (t3 : ByteArray) (a3 : Option Addr) (c3 : Nat) (l3 : List FamD) (w : World) (h1 : FamsA a1 l1 w) (h2 : FamsA a2 l2 w) (h3 : FamsA a3 l3 w) (z1 : l1.length ≤ 1000000 ∧ t1.size ≤ 1000000 ∧ ∀ f ∈ l1, f.y.Sm) (z2 : l2.length ≤ 1000000 ∧ t2.size ≤ 1000000 ∧ ∀ f ∈ l2, f.y.Sm) (z3 : l3.length ≤ 1000000 ∧ t3.size ≤ 1000000 ∧ ∀ f ∈ l3, f.y.Sm) :
  Calls Tryz.prog 12 #[.slice (some ⟨w.heap.size, 0, none⟩) 3 3] (w.alloc (.cells #[.string t1, .slice a1 l1.length c1, .string t2, .slice a2 l2.length c2, .string t3, .slice a3 l3.length c3] 27)) fun e w' => MergeIs [(t1, l1.map FamD.y), (t2, l2.map FamD.y), (t3, l3.map FamD.y)] e w' ∧ Ext w w' := by
 have xs := (Ext.refl w).alloc (.cells #[.string t1, .slice a1 l1.length c1, .string t2, .slice a2 l2.length c2, .string t3, .slice a3 l3.length c3] 27)
 have hB := bats3 (b1 := ⟨t1, a1, c1, l1⟩) (b2 := ⟨t2, a2, c2, l2⟩) (b3 := ⟨t3, a3, c3, l3⟩) (heap_last w (.cells #[.string t1, .slice a1 l1.length c1, .string t2, .slice a2 l2.length c2, .string t3, .slice a3 l3.length c3] 27)) (h1.ext xs) (h2.ext xs) (h3.ext xs)
 have ME := merge_any _ 3 _ _ hB (by simp) (fun x hx => by
  simp only [List.mem_cons, List.not_mem_nil, or_false] at hx
  rcases hx with rfl | rfl | rfl
  ·exact z1
  ·exact z2
  ·exact z3)
 refine ME.mono fun e w' h => ⟨h.1.mis, xs.trans h.2⟩
end Go.Proofs.YtjjnmefihdjglaaGreat
