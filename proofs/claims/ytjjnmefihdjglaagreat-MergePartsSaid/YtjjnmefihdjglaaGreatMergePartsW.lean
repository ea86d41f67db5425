import Derived.Test.YtjjnmefihdjglaaGreatMgS
import Derived.Test.YtjjnmefihdjglaaGreatSmA
set_option linter.all false
namespace Go.Proofs.YtjjnmefihdjglaaGreat
open Go.RowKit
theorem same_two {t1 t2 : ByteArray} {A a : Option Addr} {C c : Nat} {L l : List FamD} {w : World} (h1 : FamsA A L w) (h2 : FamsA a l w) (z1 : Low t1 L) (z2 : Low t2 l) (et : t1 = t2) (e : L.map FamD.y = l.map FamD.y) :
  Calls Tryz.prog 26 #[.agg #[.string t1, .slice A L.length C], .agg #[.string t2, .slice a l.length c]] w fun e w' => e = .returned (.bool true) ∧ Ext w w' := by
 have h := rSame_any t1 A C L t2 a c l w z1.big.1 z2.big.1 h1 h2 z1.2.2 z2.2.2
 rw [e, sameFs_refl, decide_eq_true et] at h
 exact h
set_option maxHeartbeats 16000000 in
set_option maxRecDepth 100000 in
theorem MergeParts_main (t1 : ByteArray) (A1 : Option Addr) (c1 : Nat) (l1 : List FamD) (t2 : ByteArray) (A2 : Option Addr) (c2 : Nat) (l2 : List FamD) (t3 : ByteArray) (A3 : Option Addr) (c3 : Nat) (l3 : List FamD) (w : World) (g1 : BatGot w t1 A1 c1 l1) (g2 : BatGot w t2 A2 c2 l2) (g3 : BatGot w t3 A3 c3 l3) :
  Calls Tryz.prog 9 #[.agg #[.string t1, .slice A1 l1.length c1], .agg #[.string t2, .slice A2 l2.length c2], .agg #[.string t3, .slice A3 l3.length c3]] w fun e w' => e = .returned (.bool true) ∧ Ext w w' := by
 obtain ⟨W, hW⟩ : ∃ W, ((w.alloc (.cells #[.string t1, .slice A1 l1.length c1] 27)).alloc (.cells #[.string t2, .slice A2 l2.length c2] 27)).alloc (.cells #[.string t3, .slice A3 l3.length c3] 27) = W := ⟨_, rfl⟩
 have z1 : Ext w W := by rw [← hW]; exact (((Ext.refl w).alloc _).alloc _).alloc _
 have gA : BatIn w.heap.size t1 (.slice A1 l1.length c1) W := by rw [← hW]; exact BatIn.ext (heap_at2a _ _ _) ((Ext.refl _).alloc _)
 have gB : BatIn (w.heap.size + 1) t2 (.slice A2 l2.length c2) W := by rw [← hW]; exact BatIn.ext (heap_at2b _ _ _) ((Ext.refl _).alloc _)
 have gC : BatIn (w.heap.size + 1 + 1) t3 (.slice A3 l3.length c3) W := by
  rw [← hW]
  have := heap_last ((w.alloc (.cells #[.string t1, .slice A1 l1.length c1] 27)).alloc (.cells #[.string t2, .slice A2 l2.length c2] 27)) (.cells #[.string t3, .slice A3 l3.length c3] 27)
  rw [heap_size_alloc, heap_size_alloc] at this
  exact this
 replace hW := Lib.hid hW
 obtain ⟨B, hB⟩ : ∃ B, w.heap.size = B := ⟨_, rfl⟩
 rw [hB] at gA gB gC
 have hA := g1.fams.ext z1
 have hB2 := g2.fams.ext z1
 have hC := g3.fams.ext z1
 have lm1 := g1.len
 have lm2 := g2.len
 have lm3 := g3.len
 have fl1 : ∀ f ∈ l1, (f.ps.length : Int) ≤ 9223372036854775807 := fun f hf => (g1.got f hf).ext0
 have fl2 : ∀ f ∈ l2, (f.ps.length : Int) ≤ 9223372036854775807 := fun f hf => (g2.got f hf).ext0
 have fl3 : ∀ f ∈ l3, (f.ps.length : Int) ≤ 9223372036854775807 := fun f hf => (g3.got f hf).ext0
 clear g1 g2 g3
 go_enter Tryz.func9, Tryz.ntmps9
 go_wp2_with fail
 try rw [hB]
 rw [hW.out]
 (with_reducible refine (known11_any _).mono ?_)
 rintro e w1 ⟨rfl, y1⟩
 clear hW hB
 replace gA := gA.ext y1
 replace gB := gB.ext y1
 replace gC := gC.ext y1
 replace hA := hA.ext y1
 replace hB2 := hB2.ext y1
 replace hC := hC.ext y1
 replace z1 := z1.trans y1
 clear y1
 obtain ⟨a0, a1⟩ := gA.cells
 go_wp2_with fail
 (with_reducible refine (wide_any t1 A1 c1 l1 _ lm1 hA fl1).mono ?_)
 rintro e w2 ⟨⟨sb, rfl, hsb⟩, y1⟩
 clear a0 a1
 replace gA := gA.ext y1
 replace gB := gB.ext y1
 replace gC := gC.ext y1
 replace hA := hA.ext y1
 replace hB2 := hB2.ext y1
 replace hC := hC.ext y1
 replace z1 := z1.trans y1
 clear y1 fl1 lm1
 cases sb
 rotate_left
 ·clear hsb
  go_wp2_with fail
  go_ret
  exact ⟨rfl, z1⟩
 have low1 : Low t1 l1 := by
  obtain ⟨h40, h100, hnar⟩ := hsb rfl
  exact ⟨by omega, by omega, fun f hf => (hnar f hf).sm⟩
 clear hsb
 obtain ⟨b0, b1⟩ := gB.cells
 go_wp2_with fail
 (with_reducible refine (wide_any t2 A2 c2 l2 _ lm2 hB2 fl2).mono ?_)
 rintro e w3 ⟨⟨sb, rfl, hsb⟩, y1⟩
 clear b0 b1
 replace gA := gA.ext y1
 replace gB := gB.ext y1
 replace gC := gC.ext y1
 replace hA := hA.ext y1
 replace hB2 := hB2.ext y1
 replace hC := hC.ext y1
 replace z1 := z1.trans y1
 clear y1 fl2 lm2
 cases sb
 rotate_left
 ·clear hsb
  go_wp2_with fail
  go_ret
  exact ⟨rfl, z1⟩
 have low2 : Low t2 l2 := by
  obtain ⟨h40, h100, hnar⟩ := hsb rfl
  exact ⟨by omega, by omega, fun f hf => (hnar f hf).sm⟩
 clear hsb
 obtain ⟨d0, d1⟩ := gC.cells
 go_wp2_with fail
 (with_reducible refine (wide_any t3 A3 c3 l3 _ lm3 hC fl3).mono ?_)
 rintro e w4 ⟨⟨sb, rfl, hsb⟩, y1⟩
 clear d0 d1
 replace gA := gA.ext y1
 replace gB := gB.ext y1
 replace gC := gC.ext y1
 replace hA := hA.ext y1
 replace hB2 := hB2.ext y1
 replace hC := hC.ext y1
 replace z1 := z1.trans y1
 clear y1 fl3 lm3
 cases sb
 rotate_left
 ·clear hsb
  go_wp2_with fail
  go_ret
  exact ⟨rfl, z1⟩
 have low3 : Low t3 l3 := by
  obtain ⟨h40, h100, hnar⟩ := hsb rfl
  exact ⟨by omega, by omega, fun f hf => (hnar f hf).sm⟩
 clear hsb
 obtain ⟨a0, a1⟩ := gA.cells
 obtain ⟨b0, b1⟩ := gB.cells
 obtain ⟨d0, d1⟩ := gC.cells
 have ME := merge3_any t1 A1 c1 l1 t2 A2 c2 l2 t3 A3 c3 l3 w4 hA hB2 hC low1.big low2.big low3.big
 go_wp2_with fail
 (with_reducible refine ME.mono ?_)
 rintro e w5 ⟨hm, xm⟩
 obtain ⟨r, tX, aX, cX, LX, eX, rfl, hX, lowX⟩ := hm
 replace eX := Lib.hid eX
 clear ME
 try clear hm
 clear a0 a1 b0 b1 d0 d1
 have xa := (Ext.refl w5).alloc (.cells #[.string tX, .slice aX LX.length cX] 27)
 have gX : BatIn w5.heap.size tX (.slice aX LX.length cX) (w5.alloc (.cells #[.string tX, .slice aX LX.length cX] 27)) := heap_last _ _
 replace xm := xm.trans xa
 replace gA := gA.ext xm
 replace gB := gB.ext xm
 replace gC := gC.ext xm
 replace hA := hA.ext xm
 replace hB2 := hB2.ext xm
 replace hC := hC.ext xm
 replace z1 := z1.trans xm
 replace hX := hX.ext xa
 obtain ⟨VX, hVX⟩ : ∃ V, w5.alloc (.cells #[.string tX, .slice aX LX.length cX] 27) = V := ⟨_, rfl⟩
 rw [hVX] at gA gB gC hA hB2 hC gX hX z1
 clear xa xm
 obtain ⟨a0, a1⟩ := gA.cells
 obtain ⟨b0, b1⟩ := gB.cells
 have ME := merge2_any t1 A1 c1 l1 t2 A2 c2 l2 VX hA hB2 low1.big low2.big
 go_wp2_with fail
 (with_reducible refine ME.mono ?_)
 rintro e w6 ⟨hm, xm⟩
 obtain ⟨f, tY, aY, cY, LY, eY, rfl, hY, lowY⟩ := hm
 replace eY := Lib.hid eY
 clear ME
 try clear hm
 clear a0 a1 b0 b1
 clear hVX
 have xa := (Ext.refl w6).alloc (.cells #[.string tY, .slice aY LY.length cY] 27)
 have gY : BatIn w6.heap.size tY (.slice aY LY.length cY) (w6.alloc (.cells #[.string tY, .slice aY LY.length cY] 27)) := heap_last _ _
 replace xm := xm.trans xa
 replace gA := gA.ext xm
 replace gB := gB.ext xm
 replace gC := gC.ext xm
 replace gX := gX.ext xm
 replace hA := hA.ext xm
 replace hB2 := hB2.ext xm
 replace hC := hC.ext xm
 replace hX := hX.ext xm
 replace z1 := z1.trans xm
 replace hY := hY.ext xa
 obtain ⟨VY, hVY⟩ : ∃ V, w6.alloc (.cells #[.string tY, .slice aY LY.length cY] 27) = V := ⟨_, rfl⟩
 rw [hVY] at gA gB gC gX hA hB2 hC hX gY hY z1
 clear xa xm
 have hr2 : Hid (f ≠ 0 → r ≠ 0) := Lib.hid (fun h => by have k := not_left (A := (t1, l1.map FamD.y)) (B := (t2, l2.map FamD.y)) (C := (t3, l3.map FamD.y)) (by rw [eY.out]; exact h); rw [eX.out] at k; exact k)
 by_cases hf : f = 0
 rotate_left
 ·have hr3 := hr2.out hf
  have hfb : (f == 0) = false := beq_eq_false_iff_ne.2 hf
  have hr3b : (r == 0) = false := beq_eq_false_iff_ne.2 hr3
  have hr3c : (r != 0) = true := by simpa using hr3
  clear gY hY
  obtain ⟨b0, b1⟩ := gB.cells
  obtain ⟨d0, d1⟩ := gC.cells
  have ME := merge2_any t2 A2 c2 l2 t3 A3 c3 l3 VY hB2 hC low2.big low3.big
  go_wp2_with fail
  (with_reducible refine ME.mono ?_)
  rintro e w8 ⟨hm, xm⟩
  obtain ⟨f2, tU, aU, cU, LU, eU, rfl, hU, lowU⟩ := hm
  replace eU := Lib.hid eU
  clear ME
  try clear hm
  clear b0 b1 d0 d1
  clear hVY
  have xa := (Ext.refl w8).alloc (.cells #[.string tU, .slice aU LU.length cU] 27)
  have gU : BatIn w8.heap.size tU (.slice aU LU.length cU) (w8.alloc (.cells #[.string tU, .slice aU LU.length cU] 27)) := heap_last _ _
  replace xm := xm.trans xa
  replace gA := gA.ext xm
  replace gB := gB.ext xm
  replace gC := gC.ext xm
  replace gX := gX.ext xm
  replace hA := hA.ext xm
  replace hB2 := hB2.ext xm
  replace hC := hC.ext xm
  replace hX := hX.ext xm
  replace z1 := z1.trans xm
  replace hU := hU.ext xa
  obtain ⟨VU, hVU⟩ : ∃ V, w8.alloc (.cells #[.string tU, .slice aU LU.length cU] 27) = V := ⟨_, rfl⟩
  rw [hVU] at gA gB gC gX hA hB2 hC hX gU hU z1
  clear xa xm
  by_cases hf2 : f2 = 0
  rotate_left
  ·have hr3 : r ≠ 0 := by have k := not_right (A := (t1, l1.map FamD.y)) (B := (t2, l2.map FamD.y)) (C := (t3, l3.map FamD.y)) (by rw [eU.out]; exact hf2); rw [eX.out] at k; exact k
   have hf2b : (f2 == 0) = false := beq_eq_false_iff_ne.2 hf2
   have hr3b : (r == 0) = false := beq_eq_false_iff_ne.2 hr3
   have hf2c : (f2 != 0) = true := by simpa using hf2
   have hr3c : (r != 0) = true := by simpa using hr3
   clear gA gB gC gX gU hA hB2 hC hX hU
   go_wp2_with fail
   go_ret
   exact ⟨rfl, z1⟩
  subst hf2
  have eR : Hid (mergeY [(t1, l1.map FamD.y), (tU, LU.map FamD.y)] = (r, tX, LX.map FamD.y)) := Lib.hid ((parts_right (A := (t1, l1.map FamD.y)) eU.out).trans eX.out)
  obtain ⟨a0, a1⟩ := gA.cells
  obtain ⟨u0, u1⟩ := gU.cells
  have ME := merge2_any t1 A1 c1 l1 tU aU cU LU VU hA hU low1.big lowU.big
  go_wp2_with fail
  (with_reducible refine ME.mono ?_)
  rintro e w9 ⟨hm, xm⟩
  obtain ⟨aV, cV, LV, eV, rfl, hV, lowV⟩ := hm.is eR.out
  replace eV := Lib.hid eV
  clear ME
  try clear hm
  clear a0 a1 u0 u1
  clear hVU
  have xa := (Ext.refl w9).alloc (.cells #[.string tX, .slice aV LV.length cV] 27)
  have gV : BatIn w9.heap.size tX (.slice aV LV.length cV) (w9.alloc (.cells #[.string tX, .slice aV LV.length cV] 27)) := heap_last _ _
  replace xm := xm.trans xa
  replace gA := gA.ext xm
  replace gB := gB.ext xm
  replace gC := gC.ext xm
  replace gX := gX.ext xm
  replace gU := gU.ext xm
  replace hA := hA.ext xm
  replace hB2 := hB2.ext xm
  replace hC := hC.ext xm
  replace hX := hX.ext xm
  replace hU := hU.ext xm
  replace z1 := z1.trans xm
  replace hV := hV.ext xa
  obtain ⟨VV, hVV⟩ : ∃ V, w9.alloc (.cells #[.string tX, .slice aV LV.length cV] 27) = V := ⟨_, rfl⟩
  rw [hVV] at gA gB gC gX gU hA hB2 hC hX hU gV hV z1
  clear xa xm
  obtain ⟨x0, x1⟩ := gX.cells
  obtain ⟨v0, v1⟩ := gV.cells
  have SA := same_two (C := cX) (c := cV) hX hV lowX lowV rfl eV.out.symm
  clear gA gB gC gX gU gV hA hB2 hC hX hU hV
  have rr : ((r == 0) == (r == 0)) = true := by simp
  go_wp2_with fail
  (with_reducible refine SA.mono ?_)
  rintro e w10 ⟨rfl, xm⟩
  go_wp2_with fail
  go_ret
  exact ⟨rfl, z1.trans xm⟩
 subst hf
 have eL : Hid (mergeY [(tY, LY.map FamD.y), (t3, l3.map FamD.y)] = (r, tX, LX.map FamD.y)) := Lib.hid ((parts_left (C := (t3, l3.map FamD.y)) eY.out).trans eX.out)
 obtain ⟨y0, y1⟩ := gY.cells
 obtain ⟨d0, d1⟩ := gC.cells
 have ME := merge2_any tY aY cY LY t3 A3 c3 l3 VY hY hC lowY.big low3.big
 go_wp2_with fail
 (with_reducible refine ME.mono ?_)
 rintro e w7 ⟨hm, xm⟩
 obtain ⟨aZ, cZ, LZ, eZ, rfl, hZ, lowZ⟩ := hm.is eL.out
 replace eZ := Lib.hid eZ
 clear ME
 try clear hm
 clear y0 y1 d0 d1
 clear hVY gY hY
 have xa := (Ext.refl w7).alloc (.cells #[.string tX, .slice aZ LZ.length cZ] 27)
 have gZ : BatIn w7.heap.size tX (.slice aZ LZ.length cZ) (w7.alloc (.cells #[.string tX, .slice aZ LZ.length cZ] 27)) := heap_last _ _
 replace xm := xm.trans xa
 replace gA := gA.ext xm
 replace gB := gB.ext xm
 replace gC := gC.ext xm
 replace gX := gX.ext xm
 replace hA := hA.ext xm
 replace hB2 := hB2.ext xm
 replace hC := hC.ext xm
 replace hX := hX.ext xm
 replace z1 := z1.trans xm
 replace hZ := hZ.ext xa
 obtain ⟨VZ, hVZ⟩ : ∃ V, w7.alloc (.cells #[.string tX, .slice aZ LZ.length cZ] 27) = V := ⟨_, rfl⟩
 rw [hVZ] at gA gB gC gX hA hB2 hC hX gZ hZ z1
 clear xa xm
 obtain ⟨x0, x1⟩ := gX.cells
 obtain ⟨v0, v1⟩ := gZ.cells
 have SA := same_two (C := cX) (c := cZ) hX hZ lowX lowZ rfl eZ.out.symm
 have rn : (r != r) = false := by simp
 go_wp2_with fail
 (with_reducible refine SA.mono ?_)
 rintro e w7b ⟨rfl, xm⟩
 clear x0 x1 v0 v1 SA hVZ gZ hZ
 replace gA := gA.ext xm
 replace gB := gB.ext xm
 replace gC := gC.ext xm
 replace gX := gX.ext xm
 replace hA := hA.ext xm
 replace hB2 := hB2.ext xm
 replace hC := hC.ext xm
 replace hX := hX.ext xm
 replace z1 := z1.trans xm
 clear xm
 obtain ⟨b0, b1⟩ := gB.cells
 obtain ⟨d0, d1⟩ := gC.cells
 have ME := merge2_any t2 A2 c2 l2 t3 A3 c3 l3 w7b hB2 hC low2.big low3.big
 go_wp2_with fail
 (with_reducible refine ME.mono ?_)
 rintro e w8 ⟨hm, xm⟩
 obtain ⟨f2, tU, aU, cU, LU, eU, rfl, hU, lowU⟩ := hm
 replace eU := Lib.hid eU
 clear ME
 try clear hm
 clear b0 b1 d0 d1
 have xa := (Ext.refl w8).alloc (.cells #[.string tU, .slice aU LU.length cU] 27)
 have gU : BatIn w8.heap.size tU (.slice aU LU.length cU) (w8.alloc (.cells #[.string tU, .slice aU LU.length cU] 27)) := heap_last _ _
 replace xm := xm.trans xa
 replace gA := gA.ext xm
 replace gB := gB.ext xm
 replace gC := gC.ext xm
 replace gX := gX.ext xm
 replace hA := hA.ext xm
 replace hB2 := hB2.ext xm
 replace hC := hC.ext xm
 replace hX := hX.ext xm
 replace z1 := z1.trans xm
 replace hU := hU.ext xa
 obtain ⟨VU, hVU⟩ : ∃ V, w8.alloc (.cells #[.string tU, .slice aU LU.length cU] 27) = V := ⟨_, rfl⟩
 rw [hVU] at gA gB gC gX hA hB2 hC hX gU hU z1
 clear xa xm
 by_cases hf2 : f2 = 0
 rotate_left
 ·have hr3 : r ≠ 0 := by have k := not_right (A := (t1, l1.map FamD.y)) (B := (t2, l2.map FamD.y)) (C := (t3, l3.map FamD.y)) (by rw [eU.out]; exact hf2); rw [eX.out] at k; exact k
  have hf2b : (f2 == 0) = false := beq_eq_false_iff_ne.2 hf2
  have hr3b : (r == 0) = false := beq_eq_false_iff_ne.2 hr3
  have hf2c : (f2 != 0) = true := by simpa using hf2
  have hr3c : (r != 0) = true := by simpa using hr3
  clear gA gB gC gX gU hA hB2 hC hX hU
  go_wp2_with fail
  go_ret
  exact ⟨rfl, z1⟩
 subst hf2
 have eR : Hid (mergeY [(t1, l1.map FamD.y), (tU, LU.map FamD.y)] = (r, tX, LX.map FamD.y)) := Lib.hid ((parts_right (A := (t1, l1.map FamD.y)) eU.out).trans eX.out)
 obtain ⟨a0, a1⟩ := gA.cells
 obtain ⟨u0, u1⟩ := gU.cells
 have ME := merge2_any t1 A1 c1 l1 tU aU cU LU VU hA hU low1.big lowU.big
 go_wp2_with fail
 (with_reducible refine ME.mono ?_)
 rintro e w9 ⟨hm, xm⟩
 obtain ⟨aV, cV, LV, eV, rfl, hV, lowV⟩ := hm.is eR.out
 replace eV := Lib.hid eV
 clear ME
 try clear hm
 clear a0 a1 u0 u1
 clear hVU
 have xa := (Ext.refl w9).alloc (.cells #[.string tX, .slice aV LV.length cV] 27)
 have gV : BatIn w9.heap.size tX (.slice aV LV.length cV) (w9.alloc (.cells #[.string tX, .slice aV LV.length cV] 27)) := heap_last _ _
 replace xm := xm.trans xa
 replace gA := gA.ext xm
 replace gB := gB.ext xm
 replace gC := gC.ext xm
 replace gX := gX.ext xm
 replace gU := gU.ext xm
 replace hA := hA.ext xm
 replace hB2 := hB2.ext xm
 replace hC := hC.ext xm
 replace hX := hX.ext xm
 replace hU := hU.ext xm
 replace z1 := z1.trans xm
 replace hV := hV.ext xa
 obtain ⟨VV, hVV⟩ : ∃ V, w9.alloc (.cells #[.string tX, .slice aV LV.length cV] 27) = V := ⟨_, rfl⟩
 rw [hVV] at gA gB gC gX gU hA hB2 hC hX hU gV hV z1
 clear xa xm
 obtain ⟨x0, x1⟩ := gX.cells
 obtain ⟨v0, v1⟩ := gV.cells
 have SA := same_two (C := cX) (c := cV) hX hV lowX lowV rfl eV.out.symm
 clear gA gB gC gX gU gV hA hB2 hC hX hU hV
 have rr : ((r == 0) == (r == 0)) = true := by simp
 go_wp2_with fail
 (with_reducible refine SA.mono ?_)
 rintro e w10 ⟨rfl, xm⟩
 go_wp2_with fail
 go_ret
 exact ⟨rfl, z1.trans xm⟩
end Go.Proofs.YtjjnmefihdjglaaGreat
