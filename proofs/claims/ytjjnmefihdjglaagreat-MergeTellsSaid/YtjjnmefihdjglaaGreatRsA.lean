import Derived.Test.YtjjnmefihdjglaaGreatKO
import Derived.Test.YtjjnmefihdjglaaGreatKI
import Derived.Test.YtjjnmefihdjglaaGreatKJ
set_option maxRecDepth 100000
set_option maxHeartbeats 64000000
set_option linter.all false
namespace Go.Proofs.YtjjnmefihdjglaaGreat
open Go.RowKit
section
variable {α : Type} {f : α → α → Int}
theorem put_ris (h : Cmp f) {L : List α} {x : α} {j : Nat} (hj : j ≤ L.length) (hL : Ris f L) (h1 : ∀ i (hi : i < L.length),j ≤ i → 0 < f L[i] x) (h2 : ∀ i (hi : i < L.length),i + 1 = j → f L[i] x < 0) : Ris f (L.take j ++ [x] ++ L.drop j) := by
 have hg := List.pairwise_iff_getElem.1 hL
 have less : ∀ y ∈ L.take j,f y x < 0 := fun y hy => by
  obtain ⟨i,hi,e⟩ := List.getElem_of_mem hy
  rw [List.length_take] at hi
  rw [List.getElem_take] at e
  subst e
  by_cases q : i + 1 = j
  ·exact h2 i (by omega) q
  ·have a1 := hg i (j - 1) (by omega) (by omega) (by omega)
   have a2 := h2 (j - 1) (by omega) (by omega)
   exact h.lt_trans (by omega) (by omega) (.inl a1)
 have more : ∀ y ∈ L.drop j,f x y < 0 := fun y hy => by
  obtain ⟨i,hi,e⟩ := List.getElem_of_mem hy
  rw [List.length_drop] at hi
  rw [List.getElem_drop] at e
  subst e
  have a1 := h1 (j + i) (by omega) (by omega)
  have a2 := h.anti L[j + i] x
  omega
 have hcut : Ris f (L.take j ++ L.drop j) := by rw [List.take_append_drop]; exact hL
 have hc := List.pairwise_append.1 hcut
 unfold Ris
 rw [List.append_assoc,List.pairwise_append]
 refine ⟨hc.1,List.pairwise_cons.2 ⟨more,hc.2.1⟩,fun y hy z hz => ?_⟩
 rcases List.mem_cons.1 hz with rfl | hz
 ·exact less y hy
 ·exact hc.2.2 y hy z hz
theorem put_perm {L l : List α} {k : Nat} (hp : L.Perm (l.take k)) (hk : k < l.length) (j : Nat) : (L.take j ++ [l[k]] ++ L.drop j).Perm (l.take (k + 1)) := by
 rw [List.take_add_one,List.getElem?_eq_getElem hk,Option.toList_some,List.append_assoc]
 show (L.take j ++ l[k] :: L.drop j).Perm _
 refine List.perm_middle.trans ?_
 rw [List.take_append_drop]
 exact (hp.cons _).trans (List.perm_append_singleton _ _).symm
theorem put_bad (h : Cmp f) {L l : List α} {k j : Nat} (hp : L.Perm (l.take k)) (hk : k < l.length) (hj : j < L.length) (e : f L[j] l[k] = 0) (M : List α) (hM : M.Perm l) : ¬ Ris f M := fun hr => by
 have h1 : l.Pairwise (fun x y => f x y ≠ 0) := (hM.pairwise_iff (fun {x y} hxy => by have := h.anti x y; omega)).1 (hr.imp (fun {x y} k => by omega))
 rw [← List.take_append_drop k l,List.pairwise_append,List.drop_eq_getElem_cons hk] at h1
 exact h1.2.2 L[j] (hp.subset (List.getElem_mem hj)) l[k] List.mem_cons_self e
end
theorem PtsA.from {b o : Nat} {l : List PtD} {w : World} (h : PtsA (some ⟨b,o,none⟩) l w) (k : Nat) : PtsA (some ⟨b,o + k * 9,none⟩) (l.drop k) w := by
 refine ⟨fun h0 => ?_,fun p hp => h.2 p (List.mem_of_mem_drop hp)⟩
 rw [List.length_drop] at h0
 obtain ⟨b',o',e,hb,hP⟩ := h.1 (by omega)
 injection e with e
 injection e with e1 e2
 subst e1 e2
 refine ⟨b,o + k * 9,rfl,hb,fun i hi => ?_⟩
 rw [List.length_drop] at hi
 have := hP (k + i) (by omega)
 have ee : (l.drop k)[i]'(by rw [List.length_drop]; exact hi) = l[k + i] := by simp
 rw [ee,show o + k * 9 + i * 9 = o + (k + i) * 9 from by rw [Nat.add_mul]; omega]
 exact this
theorem PtsA.upto {a : Option Addr} {l : List PtD} {w : World} (h : PtsA a l w) (k : Nat) : PtsA a (l.take k) w := by
 refine ⟨fun h0 => ?_,fun p hp => h.2 p (List.mem_of_mem_take hp)⟩
 rw [List.length_take] at h0
 obtain ⟨b,o,rfl,hb,hP⟩ := h.1 (by omega)
 refine ⟨b,o,rfl,hb,fun i hi => ?_⟩
 rw [List.length_take] at hi
 have := hP i (by omega)
 have ee : (l.take k)[i]'(by rw [List.length_take]; exact hi) = l[i] := by simp
 rw [ee]
 exact this
def SrcR {E : Type} (K : Nat) (cs : E → List Value) (z : E) (sv : Value) (l : List E) (w : World) : Prop :=
 (l = [] ∧ ∃ a c,sv = .slice a 0 c) ∨ ∃ ad c,sv = .slice (some ad) l.length c ∧ ∀ i,i < l.length → ∀ j,j < K → w.cell? (ad.add (i * K + j)) = (cs (l[i]?.getD z))[j]?
section
variable {E : Type} {K : Nat} {T : TypeId} {cs : E → List Value}
theorem app_zero {SL : TypeId} {B : Nat} (hT : TyE SL T K B) (w : World) (ty : TypeId) (base n : Nat) (v : Value) (d : Nat → E) (h : OwnR K T cs base v n d w) (a : Option Addr) (c : Nat) :
  (Builtin.append_ #[SL,SL] ty #[v,.slice a 0 c]).run Tryz.prog w = .ok v w := by
 obtain ⟨i,z,hi,hiz,hzs,hsz,hby⟩ := hT.inf
 have hs : Src Tryz.prog i.size SL (.slice a 0 c) 0 [] w := by
  cases a with
  | none => exact Src.ofNil w hT.sl c
  | some ad => exact Src.ofSlice w hT.sl ad 0 c [] (by simp) (fun j u hu => by simp at hu) (fun u hu => by cases hu)
 rcases h with ⟨rfl,rfl⟩ | ⟨g,cap,rfl,q1,q2,cc,q3,q4,q5⟩
 ·simp [Builtin.append_,run_underlying hT.sl,sizeOf,typeInfo,hi,hs.len,hs.cells]
 ·have R := run_append_room_src (P := Tryz.prog) w SL SL ty T i hT.sl hi g 0 n cap (.slice a 0 c) 0 [] hs (by omega) (fun j hj => absurd hj (by simp)) (fun j hj => absurd hj (by simp))
  exact R
theorem app_any {SL : TypeId} {B : Nat} (hT : TyE SL T K B) (hK : ∀ x,(cs x).length = K) (h1 : ∀ x,∀ u ∈ cs x,u.oneCell' = true) (hK0 : 0 < K) (w : World) (ty : TypeId) (z : E)
  (base : Nat) (v : Value) (L : List E) (hv : OwnR K T cs base v L.length (fun i => L[i]?.getD z) w) (hbase : base ≤ w.heap.size) (sv : Value) (l : List E) (hs : SrcR K cs z sv l w)
  (hb : (L.length + l.length) * B ≤ 140737488355328) (hl : L.length + l.length ≤ 9223372036854775807) :
  ∃ v' w',(Builtin.append_ #[SL,SL] ty #[v,sv]).run Tryz.prog w = .ok v' w' ∧ OwnR K T cs base v' (L ++ l).length (fun i => (L ++ l)[i]?.getD z) w' ∧ w.grownBy w' v.ownBlock := by
 rcases hs with ⟨rfl,a,c,rfl⟩ | ⟨ad,c,rfl,hn⟩
 ·exact ⟨v,w,app_zero hT w ty base L.length v _ hv a c,by simpa using hv,⟨rfl,rfl,rfl,Nat.le_refl _,fun _ _ _ => rfl⟩⟩
 ·by_cases h0 : l.length = 0
  ·obtain rfl : l = [] := List.length_eq_zero_iff.1 h0
   exact ⟨v,w,app_zero hT w ty base L.length v _ hv (some ad) c,by simpa using hv,⟨rfl,rfl,rfl,Nat.le_refl _,fun _ _ _ => rfl⟩⟩
  ·obtain ⟨v',w',r1,r2,r3,r4⟩ := append_structs hT hK h1 hK0 w ty base v L.length (fun i => L[i]?.getD z) hv hbase ad l.length c (fun i => l[i]?.getD z) hn hb hl (.inr (by omega))
   rw [List.length_append]
   refine ⟨v',w',r1,r2.congr (fun i hi => ?_),r3⟩
   unfold joinF
   by_cases q : i < L.length
   ·rw [if_pos q,List.getElem?_append_left q]
   ·rw [if_neg q,List.getElem?_append_right (by omega)]
end
end Go.Proofs.YtjjnmefihdjglaaGreat
