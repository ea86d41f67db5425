import Derived.Test.YtjjnmefihdjglaaGreatOwnB
import Derived.Test.YtjjnmefihdjglaaGreatFamD
namespace Go.Proofs.YtjjnmefihdjglaaGreat
open Go.RowKit
set_option maxHeartbeats 4000000 in
set_option maxRecDepth 100000 in
theorem insNil_any (F : Value) (w : World) : Calls Tryz.prog 125 #[.slice none 0 0, .int .i64 0, .int .i64 0, F] w fun e w' => e = .returned (.tuple #[]) ∧ Ext w w' := by
 go_enter Tryz.func125, Tryz.ntmps125
 go_wp2_with fail
 refine wp_loop_rounds 1 ?_
 rw [rounds_succ]
 go_wp2_with fail
 go_end0
 exact ⟨rfl, Ext.refl _⟩
set_option maxHeartbeats 4000000 in
set_option maxRecDepth 100000 in
theorem stableNil_any (F : Value) (w : World) : Calls Tryz.prog 102 #[.slice none 0 0, .int .i64 0, F] w fun e w' => e = .returned (.tuple #[]) ∧ Ext w w' := by
 have I := insNil_any F
 go_enter Tryz.func102, Tryz.ntmps102
 go_wp2_with fail
 refine wp_loop_rounds 1 ?_
 rw [rounds_succ]
 go_wp2_with fail
 (with_reducible refine (I _).mono ?_)
 rintro e w1 ⟨rfl, x1⟩
 go_wp2_with fail
 refine wp_loop_rounds 1 ?_
 rw [rounds_succ]
 go_wp2_with fail
 go_end0
 exact ⟨rfl, x1⟩
set_option maxHeartbeats 4000000 in
set_option maxRecDepth 100000 in
theorem sortNil_any (F : Value) (w : World) : Calls Tryz.prog 69 #[.slice none 0 0, F] w fun e w' => e = .returned (.tuple #[]) ∧ Ext w w' := by
 have I := stableNil_any F
 go_enter Tryz.func69, Tryz.ntmps69
 go_wp2_with fail
 (with_reducible refine (I _).mono ?_)
 rintro e w1 ⟨rfl, x1⟩
 go_wp2_with fail
 go_end0
 exact ⟨rfl, x1⟩
theorem PtD.Ok.extB {p : PtD} {g : Nat} {w W : World} (h : p.Ok w) (x : ExtB g w W) (hr : ∀ a, p.a = some a → a.block ≠ g) : p.Ok W := by
 refine ⟨h.1, fun h0 => ?_, h.2.2⟩
 obtain ⟨b, o, e, hb, hl⟩ := h.2.1 h0
 have hn := hr _ e
 exact ⟨b, o, e, Nat.lt_of_lt_of_le hb x.size, fun i hi => ⟨(x.cell (p := ⟨b, o + i * 2, none⟩) hb hn).trans (hl i hi).1, (x.cell (p := ⟨b, o + i * 2 + 1, none⟩) hb hn).trans (hl i hi).2⟩⟩
theorem ExtB.grown {g : Nat} {w W : World} (x : ExtB g w W) : w.grownBy W (some g) := ⟨x.os, x.tape, x.output, x.size, fun k hk hn => x.blk k hk (fun e => hn (by rw [e]))⟩
theorem Ext.grown {w W : World} (x : Ext w W) (r : Option Nat) : w.grownBy W r := ⟨x.1, x.2, x.3, x.size, fun _ hk _ => x.heap hk⟩
theorem range_getD (L : List PtD) : (List.range L.length).map (fun i => L[i]?.getD PtD.zero) = L := by
 refine List.ext_getElem (by simp) (fun i h1 h2 => ?_)
 simp at h1 ⊢
 simp [h1]
theorem sortPts_any (base : Nat) (v : Value) (L : List PtD) (w : World) (hO : OwnP base v L w) (hl : L.length ≤ 1000) :
  Calls Tryz.prog 69 #[v, .func (.func 56) #[] #[]] w fun e w' => e = .returned (.tuple #[]) ∧ ∃ L', L'.Perm L ∧ L'.Pairwise (fun x y => ¬ cmpK y.k x.k < 0) ∧ OwnP base v L' w' ∧ w.grownBy w' v.ownBlock := by
 rcases hO.1 with ⟨rfl, h0⟩ | ⟨g, cap, rfl, q1, q2, c, q3, q4, q5⟩
 ·have : L = [] := List.length_eq_zero_iff.1 h0
  subst this
  exact (sortNil_any _ w).mono fun e w' ⟨h1, h2⟩ => ⟨h1, [], List.Perm.refl _, List.Pairwise.nil, hO.ext h2, h2.grown _⟩
 ·have hR : RowE 9 40 PtD.cs g L.length (fun i => L[i]?.getD PtD.zero) w := ⟨c, q3, by rw [q4]; exact Nat.mul_le_mul_right 9 q2, q5⟩
  have hS : ∀ i, i < L.length → (fun i => L[i]?.getD PtD.zero) i ∈ L := fun i hi => by simp [hi]
  have off : ∀ p ∈ L, ∀ a, p.a = some a → a.block ≠ g := fun p hp a ha => (hO.2 p hp).off a ha g rfl
  refine (sort_p (fun p => p ∈ L) (fun p q => cmpK p.k q.k) (lt_of_cmp (cmpK_cmp.pull PtD.k)) g L.length cap (fun i => L[i]?.getD PtD.zero) w w hR.lt hl (ExtB.refl _ _) hR hS
   (fun W x y hX hx hy => cmpD_any x y W ((hO.2 x hx).ok.extB hX (off x hx)) ((hO.2 y hy).ok.extB hX (off y hy)))).mono ?_
  rintro e w' ⟨rfl, d', k1, k2, k3, k4⟩
  have hp : ((List.range L.length).map d').Perm L := by
   have := k1.perm (Nat.le_refl _)
   rwa [range_getD] at this
  refine ⟨rfl, (List.range L.length).map d', hp, sd_pairwise (f := fun p q => cmpK p.k q.k) d' _ k2, ⟨?_, fun p hpm => ?_⟩, k4.grown⟩
  ·obtain ⟨c', e1, e2⟩ := k4.row c _ _ q3
   obtain ⟨c2, e3, e4, e5⟩ := k3
   rw [e1] at e3
   injection e3 with e3
   injection e3 with e3
   subst e3
   rw [List.length_map, List.length_range]
   refine .inr ⟨g, cap, rfl, q1, q2, c', e1, by rw [e2]; exact q4, fun i hi j hj => ?_⟩
   rw [e5 i hi j hj]
   simp [hi]
  ·have hm := hp.subset hpm
   exact ⟨(hO.2 p hm).ok.extB k4 (off p hm), (hO.2 p hm).lo, fun x hx => Nat.lt_of_lt_of_le ((hO.2 p hm).hi x hx) k4.size, (hO.2 p hm).off⟩
theorem FamIn.free {b : Nat} {nm : ByteArray} {k : Int} {un he : ByteArray} {pv : Value} {w : World} (h : FamIn b nm k un he pv w) (o : Nat) : w.frozen? ⟨b, o, none⟩ = false := by
 unfold FamIn at h
 unfold World.frozen?
 rw [h]; simp
def famV (nm : ByteArray) (k : Int) (un he : ByteArray) (v : Value) : Value := .agg #[.string nm, .int .i64 k, .string un, .string he, v]
abbrev emp0 : ByteArray := ⟨#[]⟩
set_option maxHeartbeats 4000000 in
set_option maxRecDepth 100000 in
theorem ownFam_any (nm : ByteArray) (k : Int) (un he : ByteArray) (a : Option Addr) (c : Nat) (l : List PtD) (w : World) (hl : l.length ≤ 1000) (hL : ∀ p ∈ l, p.l.length ≤ 1000) (hA : PtsA a l w) :
  Calls Tryz.prog 54 #[.agg #[.string nm, .int .i64 k, .string un, .string he, .slice a l.length c]] w fun e w' => (∃ v L, e = .returned (.agg #[.string nm, .int .i64 k, .string un, .string he, v]) ∧ L.map PtD.y = l.map PtD.y ∧ OwnP w.heap.size v L w') ∧ Ext w w' := by
 have CL := fun W (x : Ext w W) => ownPoints_any a c l W hl hL (hA.ext x)
 obtain ⟨V, hV⟩ : ∃ V, Value.slice a l.length c = V := ⟨_, rfl⟩
 rw [hV] at CL ⊢
 obtain ⟨W, hW⟩ : ∃ W, (w.alloc (.cells #[.string nm, .int .i64 k, .string un, .string he, V] 35)).alloc (.cells #[.string ⟨#[]⟩, .int .i64 0, .string ⟨#[]⟩, .string ⟨#[]⟩, .slice none 0 0] 35) = W := ⟨_, rfl⟩
 have x1 : Ext w W := by rw [← hW]; exact ((Ext.refl w).alloc _).alloc _
 have h1 : FamIn w.heap.size nm k un he V W := by rw [← hW]; exact heap_at2a _ _ _
 have h2 : FamIn (w.heap.size + 1) ⟨#[]⟩ 0 ⟨#[]⟩ ⟨#[]⟩ (.slice none 0 0) W := by rw [← hW]; exact heap_at2b _ _ _
 have hWz : w.heap.size + 2 ≤ W.heap.size := by rw [← hW]; simp
 replace hW := Lib.hid hW
 go_enter Tryz.func54, Tryz.ntmps54
 go_wp2_with fail
 rw [hW.out]
 (with_reducible refine (CL _ x1).mono ?_)
 rintro e w2 ⟨⟨v, L, rfl, hy, hO⟩, x2⟩
 replace h1 := h1.ext x2
 replace h2 := h2.ext x2
 have x3 := x1.trans x2
 obtain ⟨c0, c1, c2, c3, c4⟩ := h1.cells
 obtain ⟨d0, d1, d2, d3, d4⟩ := h2.cells
 have fr1 := fun o => h1.free o
 have fr2 := fun o => h2.free o
 obtain ⟨a', c', hv⟩ := hO.1.form
 subst hv
 clear h1 h2
 go_wp2_with fail
 have hz1 : w.heap.size ≤ w.heap.size + 1 := Nat.le_succ _
 have XF := (((((x3.setC w.heap.size 4 (.slice a' L.length c') (Nat.le_refl _)).setC (w.heap.size + 1) 0 (.string nm) hz1).setC (w.heap.size + 1) 1 (.int .i64 k) hz1).setC (w.heap.size + 1) 2 (.string un) hz1).setC (w.heap.size + 1) 3 (.string he) hz1).setC (w.heap.size + 1) 4 (.slice a' L.length c') hz1
 have OF := (((((hO.setC w.heap.size 4 (.slice a' L.length c') (by omega)).setC (w.heap.size + 1) 0 (.string nm) (by omega)).setC (w.heap.size + 1) 1 (.int .i64 k) (by omega)).setC (w.heap.size + 1) 2 (.string un) (by omega)).setC (w.heap.size + 1) 3 (.string he) (by omega)).setC (w.heap.size + 1) 4 (.slice a' L.length c') (by omega)
 refine bodyPost_ret (v := .agg #[.string nm, .int .i64 k, .string un, .string he, .slice a' L.length c']) ?_ rfl ⟨⟨_, L, rfl, hy, OF.mono (by omega)⟩, XF⟩
 simp [results, Tryz.results54, go_sem, d0, d1, d2, d3, d4]
end Go.Proofs.YtjjnmefihdjglaaGreat
