import Derived.Test.YtjjnmefihdjglaaGreatMgS
import Derived.Test.YtjjnmefihdjglaaGreatSmA
set_option linter.all false
namespace Go.Proofs.YtjjnmefihdjglaaGreat
open Go.RowKit
theorem sameB_is {tn : ByteArray} {A a : Option Addr} {C c : Nat} {L l : List FamD} {w : World} (h1 : FamsA A L w) (h2 : FamsA a l w) (z1 : Low tn L) (z2 : Low tn l) (e : L.map FamD.y = l.map FamD.y) :
  Calls Tryz.prog 26 #[.agg #[.string tn, .slice A L.length C], .agg #[.string tn, .slice a l.length c]] w fun e w' => e = .returned (.bool true) ∧ Ext w w' := by
 have h := rSame_any tn A C L tn a c l w z1.big.1 z2.big.1 h1 h2 z1.2.2 z2.2.2
 rw [e, sameFs_refl, decide_eq_true rfl] at h
 exact h
set_option maxHeartbeats 16000000 in
set_option maxRecDepth 100000 in
theorem MergeSelf_main (tn : ByteArray) (A : Option Addr) (c : Nat) (l : List FamD) (na : Option Addr) (nc : Nat) (nms : List ByteArray) (w : World) (g : BatGot w tn A c l) (hN : StrsA na nms w) (hnl : (nms.length : Int) ≤ 9223372036854775807) :
  Calls Tryz.prog 8 #[.agg #[.string tn, .slice A l.length c], .slice na nms.length nc] w fun e w' => e = .returned (.bool true) ∧ Ext w w' := by
 obtain ⟨W, hW⟩ : ∃ W, w.alloc (.cells #[.string tn, .slice A l.length c] 27) = W := ⟨_, rfl⟩
 have z1 : Ext w W := by rw [← hW]; exact (Ext.refl w).alloc _
 have gB : BatIn w.heap.size tn (.slice A l.length c) W := by rw [← hW]; exact heap_last _ _
 replace hW := Lib.hid hW
 obtain ⟨B, hB⟩ : ∃ B, w.heap.size = B := ⟨_, rfl⟩
 rw [hB] at gB
 have hA := g.fams.ext z1
 replace hN := hN.ext z1
 have hlm := g.len
 have hfl : ∀ f ∈ l, (f.ps.length : Int) ≤ 9223372036854775807 := fun f hf => (g.got f hf).ext0
 clear g
 go_enter Tryz.func8, Tryz.ntmps8
 go_wp2_with fail
 rw [hW.out]
 (with_reducible refine (known11_any _).mono ?_)
 rintro e w1 ⟨rfl, y1⟩
 replace gB := gB.ext y1
 replace hA := hA.ext y1
 replace hN := hN.ext y1
 replace z1 := z1.trans y1
 clear hW hB y1
 obtain ⟨b0, b1⟩ := gB.cells
 go_wp2_with fail
 (with_reducible refine (wide_any tn A c l w1 hlm hA hfl).mono ?_)
 rintro e w2 ⟨⟨sb, rfl, hsb⟩, y1⟩
 replace gB := gB.ext y1
 replace hA := hA.ext y1
 replace hN := hN.ext y1
 replace z1 := z1.trans y1
 clear b0 b1 y1 hfl
 obtain ⟨b0, b1⟩ := gB.cells
 cases sb
 rotate_left
 ·clear hsb
  go_wp2_with fail
  go_ret
  exact ⟨rfl, z1⟩
 obtain ⟨h40, h100, hnar⟩ := hsb rfl
 clear hsb
 have hs : ∀ f ∈ l, f.y.Sm := fun f hf => (hnar f hf).sm
 have RC := rCheck_any tn A c l w2 (by omega) (by omega) hA hs
 obtain ⟨r, hr⟩ : ∃ r, checkB tn (l.map FamD.y) = r := ⟨_, rfl⟩
 rw [hr] at RC
 go_wp2_with fail
 (with_reducible refine RC.mono ?_)
 rintro e w3 ⟨rfl, y1⟩
 replace gB := gB.ext y1
 replace hA := hA.ext y1
 replace hN := hN.ext y1
 replace z1 := z1.trans y1
 clear b0 b1 y1 RC hnar
 obtain ⟨b0, b1⟩ := gB.cells
 by_cases hr0 : r = 0
 rotate_left
 ·have hrb : (r != 0) = true := by simpa using hr0
  go_wp2_with fail
  go_ret
  exact ⟨rfl, z1⟩
 subst hr0
 by_cases h8 : 8 < nms.length
 ·have h8' : (8 : Int) < (nms.length : Int) := by omega
  clear hr
  go_wp2_with fail
  go_ret
  exact ⟨rfl, z1⟩
 have h8' : ¬ (8 : Int) < (nms.length : Int) := by omega
 have GB := Lib.hid (GoodB.of hr)
 have lowB : Low tn l := ⟨by omega, by omega, hs⟩
 have MI := minus_any tn A c l na nc nms w3 (by omega) hA hs hN (by omega)
 clear hr hlm
 go_wp2_with fail
 (with_reducible refine MI.mono ?_)
 rintro e w4 ⟨⟨vP, LP, rfl, hyP, hOP⟩, x4⟩
 obtain ⟨aP, cP, rfl, hP⟩ := hOP.fams
 have GP : Hid (GoodB tn (LP.map FamD.y) ∧ ∀ f ∈ LP.map FamD.y, f ∈ l.map FamD.y) := Lib.hid (by
  rw [hyP]
  exact ⟨GB.out.filter _, fun f hf => (List.mem_filter.1 hf).1⟩)
 have lowP : Low tn LP := GP.out.1.low
 clear MI hyP hOP hN
 clear b0 b1
 have xa := (Ext.refl w4).alloc (.cells #[.string tn, .slice aP LP.length cP] 27)
 have gP : BatIn w4.heap.size tn (.slice aP LP.length cP) (w4.alloc (.cells #[.string tn, .slice aP LP.length cP] 27)) := heap_last _ _
 replace gB := gB.ext (x4.trans xa)
 replace hA := hA.ext (x4.trans xa)
 replace hP := hP.ext xa
 replace z1 := z1.trans (x4.trans xa)
 obtain ⟨V4, hV4⟩ : ∃ V4, w4.alloc (.cells #[.string tn, .slice aP LP.length cP] 27) = V4 := ⟨_, rfl⟩
 rw [hV4] at gB gP hA hP z1
 clear xa x4
 obtain ⟨b0, b1⟩ := gB.cells
 obtain ⟨p0, p1⟩ := gP.cells
 have ME := merge2_any tn A c l tn A c l V4 hA hA lowB.big lowB.big
 go_wp2_with fail
 (with_reducible refine ME.mono ?_)
 rintro e w5 ⟨hm, xm⟩
 obtain ⟨aX, cX, LX, eX, rfl, hX, lowX⟩ := hm.is ((self_part GB.out GB.out (fun f hf => hf)).1)
 replace eX := Lib.hid eX
 clear ME hm b0 b1 p0 p1 hV4
 have xa := (Ext.refl w5).alloc (.cells #[.string tn, .slice aX LX.length cX] 27)
 have gX : BatIn w5.heap.size tn (.slice aX LX.length cX) (w5.alloc (.cells #[.string tn, .slice aX LX.length cX] 27)) := heap_last _ _
 replace gB := gB.ext (xm.trans xa)
 replace gP := gP.ext (xm.trans xa)
 replace hA := hA.ext (xm.trans xa)
 replace hP := hP.ext (xm.trans xa)
 replace hX := hX.ext xa
 replace z1 := z1.trans (xm.trans xa)
 obtain ⟨V5, hV5⟩ : ∃ V5, w5.alloc (.cells #[.string tn, .slice aX LX.length cX] 27) = V5 := ⟨_, rfl⟩
 rw [hV5] at gB gP gX hA hP hX z1
 clear xa xm
 obtain ⟨b0, b1⟩ := gB.cells
 obtain ⟨p0, p1⟩ := gP.cells
 have ME := merge1_any tn A c l V5 hA lowB.big
 go_wp2_with fail
 (with_reducible refine ME.mono ?_)
 rintro e w6 ⟨hm, xm⟩
 obtain ⟨aY, cY, LY, eY, rfl, hY, lowY⟩ := hm.is (self_one GB.out)
 replace eY := Lib.hid eY
 clear ME hm b0 b1 p0 p1 hV5
 have xa := (Ext.refl w6).alloc (.cells #[.string tn, .slice aY LY.length cY] 27)
 have gY : BatIn w6.heap.size tn (.slice aY LY.length cY) (w6.alloc (.cells #[.string tn, .slice aY LY.length cY] 27)) := heap_last _ _
 replace gB := gB.ext (xm.trans xa)
 replace gP := gP.ext (xm.trans xa)
 replace gX := gX.ext (xm.trans xa)
 replace hA := hA.ext (xm.trans xa)
 replace hP := hP.ext (xm.trans xa)
 replace hX := hX.ext (xm.trans xa)
 replace hY := hY.ext xa
 replace z1 := z1.trans (xm.trans xa)
 obtain ⟨V6, hV6⟩ : ∃ V6, w6.alloc (.cells #[.string tn, .slice aY LY.length cY] 27) = V6 := ⟨_, rfl⟩
 rw [hV6] at gB gP gX gY hA hP hX hY z1
 clear xa xm
 obtain ⟨b0, b1⟩ := gB.cells
 obtain ⟨p0, p1⟩ := gP.cells
 have ME := merge2_any tn A c l tn aP cP LP V6 hA hP lowB.big lowP.big
 go_wp2_with fail
 (with_reducible refine ME.mono ?_)
 rintro e w7 ⟨hm, xm⟩
 obtain ⟨aZ, cZ, LZ, eZ, rfl, hZ, lowZ⟩ := hm.is ((self_part GB.out GP.out.1 GP.out.2).1)
 replace eZ := Lib.hid eZ
 clear ME hm b0 b1 p0 p1 hV6
 have xa := (Ext.refl w7).alloc (.cells #[.string tn, .slice aZ LZ.length cZ] 27)
 have gZ : BatIn w7.heap.size tn (.slice aZ LZ.length cZ) (w7.alloc (.cells #[.string tn, .slice aZ LZ.length cZ] 27)) := heap_last _ _
 replace gB := gB.ext (xm.trans xa)
 replace gP := gP.ext (xm.trans xa)
 replace gX := gX.ext (xm.trans xa)
 replace gY := gY.ext (xm.trans xa)
 replace hA := hA.ext (xm.trans xa)
 replace hP := hP.ext (xm.trans xa)
 replace hX := hX.ext (xm.trans xa)
 replace hY := hY.ext (xm.trans xa)
 replace hZ := hZ.ext xa
 replace z1 := z1.trans (xm.trans xa)
 obtain ⟨V7, hV7⟩ : ∃ V7, w7.alloc (.cells #[.string tn, .slice aZ LZ.length cZ] 27) = V7 := ⟨_, rfl⟩
 rw [hV7] at gB gP gX gY gZ hA hP hX hY hZ z1
 clear xa xm
 obtain ⟨b0, b1⟩ := gB.cells
 obtain ⟨p0, p1⟩ := gP.cells
 have ME := merge2_any tn aP cP LP tn A c l V7 hP hA lowP.big lowB.big
 go_wp2_with fail
 (with_reducible refine ME.mono ?_)
 rintro e w8 ⟨hm, xm⟩
 obtain ⟨aT, cT, LT, eT, rfl, hT, lowT⟩ := hm.is ((self_part GB.out GP.out.1 GP.out.2).2)
 replace eT := Lib.hid eT
 clear ME hm b0 b1 p0 p1 hV7
 have xa := (Ext.refl w8).alloc (.cells #[.string tn, .slice aT LT.length cT] 27)
 have gT : BatIn w8.heap.size tn (.slice aT LT.length cT) (w8.alloc (.cells #[.string tn, .slice aT LT.length cT] 27)) := heap_last _ _
 replace gB := gB.ext (xm.trans xa)
 replace gP := gP.ext (xm.trans xa)
 replace gX := gX.ext (xm.trans xa)
 replace gY := gY.ext (xm.trans xa)
 replace gZ := gZ.ext (xm.trans xa)
 replace hA := hA.ext (xm.trans xa)
 replace hP := hP.ext (xm.trans xa)
 replace hX := hX.ext (xm.trans xa)
 replace hY := hY.ext (xm.trans xa)
 replace hZ := hZ.ext (xm.trans xa)
 replace hT := hT.ext xa
 replace z1 := z1.trans (xm.trans xa)
 obtain ⟨V8, hV8⟩ : ∃ V8, w8.alloc (.cells #[.string tn, .slice aT LT.length cT] 27) = V8 := ⟨_, rfl⟩
 rw [hV8] at gB gP gX gY gZ gT hA hP hX hY hZ hT z1
 clear xa xm
 obtain ⟨b0, b1⟩ := gB.cells
 obtain ⟨p0, p1⟩ := gP.cells
 have ME := merge2_any tn A c l tn none 0 [] V8 hA (FamsA.nil _ _) lowB.big ⟨by simp, lowB.big.2.1, fun f hf => by cases hf⟩
 change Calls _ _ #[.slice (some ⟨V8.heap.size, 0, none⟩) 2 2] (V8.alloc (.cells #[.string tn, .slice A l.length c, .string tn, .slice none 0 0] 27)) _ at ME
 go_wp2_with fail
 (with_reducible refine ME.mono ?_)
 rintro e w9 ⟨hm, xm⟩
 obtain ⟨aV, cV, LV, eV, rfl, hV, lowV⟩ := hm.is ((self_part GB.out (GoodB.empty GB.out.ten) (fun f hf => by cases hf)).1)
 replace eV := Lib.hid eV
 clear ME hm b0 b1 p0 p1 hV8
 have xa := (Ext.refl w9).alloc (.cells #[.string tn, .slice aV LV.length cV] 27)
 have gV : BatIn w9.heap.size tn (.slice aV LV.length cV) (w9.alloc (.cells #[.string tn, .slice aV LV.length cV] 27)) := heap_last _ _
 replace gB := gB.ext (xm.trans xa)
 replace gP := gP.ext (xm.trans xa)
 replace gX := gX.ext (xm.trans xa)
 replace gY := gY.ext (xm.trans xa)
 replace gZ := gZ.ext (xm.trans xa)
 replace gT := gT.ext (xm.trans xa)
 replace hA := hA.ext (xm.trans xa)
 replace hP := hP.ext (xm.trans xa)
 replace hX := hX.ext (xm.trans xa)
 replace hY := hY.ext (xm.trans xa)
 replace hZ := hZ.ext (xm.trans xa)
 replace hT := hT.ext (xm.trans xa)
 replace hV := hV.ext xa
 replace z1 := z1.trans (xm.trans xa)
 obtain ⟨V9, hV9⟩ : ∃ V9, w9.alloc (.cells #[.string tn, .slice aV LV.length cV] 27) = V9 := ⟨_, rfl⟩
 rw [hV9] at gB gP gX gY gZ gT gV hA hP hX hY hZ hT hV z1
 clear xa xm
 clear gP hP
 obtain ⟨b0, b1⟩ := gB.cells
 obtain ⟨q0, q1⟩ := gX.cells
 have SA := sameB_is (C := cX) (c := c) hX hA lowX lowB eX.out
 go_wp2_with fail
 (with_reducible refine SA.mono ?_)
 rintro e u0 ⟨rfl, xm⟩
 clear SA b0 b1 q0 q1 hV9 gX hX
 replace gB := gB.ext xm
 replace gY := gY.ext xm
 replace gZ := gZ.ext xm
 replace gT := gT.ext xm
 replace gV := gV.ext xm
 replace hA := hA.ext xm
 replace hY := hY.ext xm
 replace hZ := hZ.ext xm
 replace hT := hT.ext xm
 replace hV := hV.ext xm
 replace z1 := z1.trans xm
 clear xm
 obtain ⟨b0, b1⟩ := gB.cells
 obtain ⟨q0, q1⟩ := gY.cells
 have SA := sameB_is (C := cY) (c := c) hY hA lowY lowB eY.out
 go_wp2_with fail
 (with_reducible refine SA.mono ?_)
 rintro e u1 ⟨rfl, xm⟩
 clear SA b0 b1 q0 q1 gY hY
 replace gB := gB.ext xm
 replace gZ := gZ.ext xm
 replace gT := gT.ext xm
 replace gV := gV.ext xm
 replace hA := hA.ext xm
 replace hZ := hZ.ext xm
 replace hT := hT.ext xm
 replace hV := hV.ext xm
 replace z1 := z1.trans xm
 clear xm
 obtain ⟨b0, b1⟩ := gB.cells
 obtain ⟨q0, q1⟩ := gZ.cells
 have SA := sameB_is (C := cZ) (c := c) hZ hA lowZ lowB eZ.out
 go_wp2_with fail
 (with_reducible refine SA.mono ?_)
 rintro e u2 ⟨rfl, xm⟩
 clear SA b0 b1 q0 q1 gZ hZ
 replace gB := gB.ext xm
 replace gT := gT.ext xm
 replace gV := gV.ext xm
 replace hA := hA.ext xm
 replace hT := hT.ext xm
 replace hV := hV.ext xm
 replace z1 := z1.trans xm
 clear xm
 obtain ⟨b0, b1⟩ := gB.cells
 obtain ⟨q0, q1⟩ := gT.cells
 have SA := sameB_is (C := cT) (c := c) hT hA lowT lowB eT.out
 go_wp2_with fail
 (with_reducible refine SA.mono ?_)
 rintro e u3 ⟨rfl, xm⟩
 clear SA b0 b1 q0 q1 gT hT
 replace gB := gB.ext xm
 replace gV := gV.ext xm
 replace hA := hA.ext xm
 replace hV := hV.ext xm
 replace z1 := z1.trans xm
 clear xm
 obtain ⟨b0, b1⟩ := gB.cells
 obtain ⟨q0, q1⟩ := gV.cells
 have SA := sameB_is (C := cV) (c := c) hV hA lowV lowB eV.out
 go_wp2_with fail
 (with_reducible refine SA.mono ?_)
 rintro e u4 ⟨rfl, xm⟩
 clear SA b0 b1 q0 q1 gV hV
 replace gB := gB.ext xm
 replace hA := hA.ext xm
 replace z1 := z1.trans xm
 clear xm
 go_wp2_with fail
 go_ret
 exact ⟨rfl, z1⟩
end Go.Proofs.YtjjnmefihdjglaaGreat
