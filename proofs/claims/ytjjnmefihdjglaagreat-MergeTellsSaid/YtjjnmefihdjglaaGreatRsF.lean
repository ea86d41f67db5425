import Derived.Test.YtjjnmefihdjglaaGreatRsE
import Derived.Test.YtjjnmefihdjglaaGreatKV
set_option maxRecDepth 100000
set_option maxHeartbeats 64000000
set_option linter.all false
namespace Go.Proofs.YtjjnmefihdjglaaGreat
open Go.RowKit
theorem one_srcF {g : Nat} {q : FamD} {w : World} (h : FamsA (some ⟨g,0,none⟩) [q] w) : ∀ i,i < 1 → ∀ j,j < 5 → w.cell? ((⟨g,0,none⟩ : Addr).add (i * 5 + j)) = (FamD.cs q)[j]? := fun i hi j hj => by
 have := FamsA.src h i hi j hj
 rw [this]
 obtain rfl : i = 0 := by omega
 rfl
def inN (nms : List ByteArray) (s : ByteArray) : Bool := nms.any (fun x => s.toList == x.toList)
theorem inN_is (nms : List ByteArray) (s : ByteArray) : inN nms s = decide (s ∈ nms) := by
 unfold inN
 cases e : nms.any (fun x => s.toList == x.toList)
 ·rw [decide_eq_false]
  intro h
  rw [List.any_eq_false] at e
  exact e s h (by simp)
 ·rw [decide_eq_true]
  obtain ⟨x,hx,hs⟩ := List.any_eq_true.1 e
  have h1 := eq_is s x
  rw [hs] at h1
  have h2 : s = x := of_decide_eq_true h1.symm
  exact h2 ▸ hx
theorem rMinus_any (tn : ByteArray) (a : Option Addr) (c : Nat) (l : List FamD) (na : Option Addr) (nc : Nat) (nms : List ByteArray) (w : World) (hl : l.length ≤ 1000) (hA : FamsA a l w) (hN : StrsA na nms w) (hn : nms.length ≤ 1000000) :
  Calls Tryz.prog 28 #[.agg #[.string tn,.slice a l.length c],.slice na nms.length nc] w fun e w' => (∃ a' c' L,e = .returned (.agg #[.string tn,.slice a' L.length c']) ∧ L.map FamD.y = (l.map FamD.y).filter (fun f => !(decide (f.nm ∈ nms))) ∧ FamsA a' L w') ∧ Ext w w' := by
 have okF : ∀ f ∈ l,PtsA f.pa f.ps w := hA.2
 obtain ⟨W,hW⟩ : ∃ W,(w.alloc (.cells #[.string tn,.slice a l.length c] 27)).alloc (.cells #[.string ⟨#[]⟩,.slice none 0 0] 27) = W := ⟨_,rfl⟩
 have xw : Ext w W := by rw [← hW]; exact ((Ext.refl w).alloc _).alloc _
 have gA : BatIn w.heap.size tn (.slice a l.length c) W := by rw [← hW]; exact heap_at2a _ _ _
 have gR : BatIn (w.heap.size + 1) ⟨#[]⟩ (.slice none 0 0) W := by rw [← hW]; exact heap_at2b _ _ _
 have xa := (Ext.refl W).alloc (.cells #[.string tn,.slice none 0 0] 27)
 have gX : BatIn W.heap.size tn (.slice none 0 0) (W.alloc (.cells #[.string tn,.slice none 0 0] 27)) := heap_last _ _
 have hWz : W.heap.size = w.heap.size + 1 + 1 := by rw [← hW,heap_size_alloc,heap_size_alloc]
 replace hWz := Lib.hid hWz
 replace hW := Lib.hid hW
 obtain ⟨B,hB⟩ : ∃ B,w.heap.size = B := ⟨_,rfl⟩
 rw [hB] at gA gR
 have hwB : w.heap.size ≤ B + 1 := by omega
 have hBX : B + 1 < W.heap.size := gR.lt
 obtain ⟨c0,c1⟩ := gA.cells
 go_enter Tryz.func28,Tryz.ntmps28
 go_wp2_with fail
 try rw [hB]
 try rw [hW.out]
 try go_wp2_with fail
 replace gA := gA.ext xa
 replace gR := gR.ext xa
 replace xw := xw.trans xa
 obtain ⟨w3,hw3⟩ : ∃ x,W.alloc (.cells #[.string tn,.slice none 0 0] 27) = x := ⟨_,rfl⟩
 rw [hw3] at gA gR gX xw ⊢
 have hWz2 := hWz.out
 rw [hB] at hWz2
 rw [hWz2] at gX hBX
 try rw [hB]
 obtain ⟨X,hX⟩ : ∃ x,B + 1 + 1 = x := ⟨_,rfl⟩
 rw [hX] at gX hBX ⊢
 have hXw : w.heap.size ≤ X := by omega
 clear c0 c1 hw3 hX hW hB xa hWz hWz2
 obtain ⟨N,hNN⟩ : ∃ N,X + 1 = N := ⟨_,rfl⟩
 have hXN : X < N := by omega
 have hN6 : N ≤ w3.heap.size := by have := gX.lt; omega
 clear hNN
 go_loopw [6] (fun i wr => ∃ (k : Nat) (L : List FamD) (v : Value),i = .int .i64 k ∧ k ≤ l.length ∧ OwnR 5 35 FamD.cs N v L.length (fun i => L[i]?.getD FamD.zero) wr ∧ BatIn X tn v wr ∧ BatIn B tn (.slice a l.length c) wr ∧ BatIn (B + 1) ⟨#[]⟩ (.slice none 0 0) wr ∧ Hid (L = (l.take k).filter (fun f => !(inN nms f.nm))) ∧ Ext w wr ∧ N ≤ wr.heap.size) (fun i _ => l.length - (intOf i).toNat)
 case atStart => exact ⟨0,[],_,rfl,Nat.zero_le _,OwnR.nil _ _ _,gX,gA,gR,Lib.hid (by simp),xw,hN6⟩
 case round =>
  clear gX gA gR xw hN6
  obtain ⟨k,L,v,rfl,hk,hO,gX,gA,gR,hQ,xw,hNw⟩ := hrel
  obtain ⟨av,cv,hv⟩ := hO.form
  subst hv
  obtain ⟨c0,c1⟩ := gA.cells
  have hLn : Hid (L.length ≤ 1000) := Lib.hid (by
   rw [hQ.out]
   have h1 := List.length_filter_le (fun f => !(inN nms f.nm)) (l.take k)
   rw [List.length_take] at h1
   omega)
  by_cases hlt : k < l.length
  ·obtain ⟨fb,fo,rfl,hfb0,hT⟩ := hA.1 (by omega)
   have hfm := List.getElem_mem hlt
   have hraw := hT k hlt
   have hQ2 : Hid ((l.take (k + 1)).filter (fun f => !(inN nms f.nm)) = L ++ (if inN nms l[k].nm = true then [] else [l[k]])) := Lib.hid (by
    rw [hQ.out,List.take_add_one,List.getElem?_eq_getElem hlt,Option.toList_some,List.filter_append]
    cases e : inN nms l[k].nm <;> simp [e])
   have okf := okF _ hfm
   generalize l[k] = f at *
   have i0 : (k : Int) < (l.length : Int) := by omega
   clear hT
   go_wp2_with fail
   clear c0 c1
   go_loopw [7,8] (fun b i ws => ∃ m : Nat,i = .int .i64 m ∧ m ≤ nms.length ∧ b = .bool (inN (nms.take m) f.nm) ∧ Ext wr ws) (fun _ i _ => nms.length - (intOf i).toNat)
   case atStart => exact ⟨0,rfl,Nat.zero_le _,rfl,Ext.refl _⟩
   case round =>
    rename World => ws
    obtain ⟨m,rfl,hm,rfl,xs⟩ := hrel
    replace gA := gA.ext xs
    replace gR := gR.ext xs
    replace gX := gX.ext xs
    replace hO := hO.ext xs
    replace xw := xw.trans xs
    have hNo := Nat.le_trans hNw xs.size
    obtain ⟨bi,hbi⟩ : ∃ b,inN (nms.take m) f.nm = b := ⟨_,rfl⟩
    rw [hbi]
    by_cases hmt : m < nms.length
    ·obtain ⟨nb,no,rfl,hnb0,hNT⟩ := hN (by omega)
     have n0 := hNT m hmt
     have hin : Hid (inN (nms.take (m + 1)) f.nm = (bi || (f.nm.toList == nms[m].toList))) := Lib.hid (by
      rw [← hbi]
      unfold inN
      rw [List.take_add_one,List.getElem?_eq_getElem hmt,Option.toList_some,List.any_append]
      simp)
     generalize nms[m] = s at *
     obtain ⟨f0,f1,f2,f3,f4⟩ := hraw
     replace f0 := (Ext.cell xw hfb0).trans f0
     replace n0 := (Ext.cell xw hnb0).trans n0
     have hfb : fb < ws.heap.size := Nat.lt_of_lt_of_le hfb0 xw.size
     have hnb : nb < ws.heap.size := Nat.lt_of_lt_of_le hnb0 xw.size
     have m1 : (m : Int) < (nms.length : Int) := by omega
     clear hbi hNT f1 f2 f3 f4
     cases bi
     ·go_wp2_with fail
      refine wp_region_held_drew (S := Ext ws) (by kernel_rfl) ((Ext.refl ws).drew) (fun hH => ?_)
      refine tk 0 rfl (by kernel_rfl) (fun _ _ _ h => h) rfl (fun w9 hS9 => by go_simp; (try rfl)) hH ?_
      try simp only [Act.put,aT,aZ,aS]
      refine tk 1 rfl (by kernel_rfl) (fun _ _ _ h => h) rfl (fun w9 hS9 => by go_simp; (try rfl)) hH ?_
      try simp only [Act.put,aT,aZ,aS]
      refine tk 2 rfl (by kernel_rfl) (fun _ _ _ h => h) rfl (fun w9 hS9 => by obtain ⟨c0,c1⟩ := (gA.ext hS9).cells; go_simp; (try rfl)) hH ?_
      try simp only [Act.put,aT,aZ,aS]
      refine tk 3 rfl (by kernel_rfl) (fun _ _ _ h => h) rfl (fun w9 hS9 => by obtain ⟨c0,c1⟩ := (gA.ext hS9).cells; go_simp; (try rfl)) hH ?_
      try simp only [Act.put,aT,aZ,aS]
      refine tk 4 rfl (by kernel_rfl) (fun _ _ _ h => h) rfl (fun w9 hS9 => by obtain ⟨c0,c1⟩ := (gA.ext hS9).cells; go_simp; (try rfl)) hH ?_
      try simp only [Act.put,aT,aZ,aS]
      refine tk 5 rfl (by kernel_rfl) (fun _ _ _ h => h) rfl (fun w9 hS9 => by obtain ⟨c0,c1⟩ := (gA.ext hS9).cells; go_simp; (try rfl)) hH ?_
      try simp only [Act.put,aT,aZ,aS]
      refine tk 6 rfl (by kernel_rfl) (fun _ _ _ h => h) rfl (fun w9 hS9 => by obtain ⟨c0,c1⟩ := (gA.ext hS9).cells; go_simp; (try rfl)) hH ?_
      try simp only [Act.put,aT,aZ,aS]
      refine tk 7 rfl (by kernel_rfl) (fun _ _ _ h => h) rfl (fun w9 hS9 => by obtain ⟨c0,c1⟩ := (gA.ext hS9).cells; go_simp; (try rfl)) hH ?_
      try simp only [Act.put,aT,aZ,aS]
      refine tk 8 rfl (by kernel_rfl) (fun _ _ _ h => h) rfl (fun w9 hS9 => by replace f0 := (Ext.cell hS9 hfb).trans f0; go_simp; (try rfl)) hH ?_
      try simp only [Act.put,aT,aZ,aS]
      refine tk 9 rfl (by kernel_rfl) (fun _ _ _ h => h) rfl (fun w9 hS9 => by go_simp; (try rfl)) hH ?_
      try simp only [Act.put,aT,aZ,aS]
      refine tk 10 rfl (by kernel_rfl) (fun _ _ _ h => h) rfl (fun w9 hS9 => by go_simp; (try rfl)) hH ?_
      try simp only [Act.put,aT,aZ,aS]
      refine tk 11 rfl (by kernel_rfl) (fun _ _ _ h => h) rfl (fun w9 hS9 => by go_simp; (try rfl)) hH ?_
      try simp only [Act.put,aT,aZ,aS]
      refine tk 12 rfl (by kernel_rfl) (fun _ _ _ h => h) rfl (fun w9 hS9 => by replace n0 := (Ext.cell hS9 hnb).trans n0; go_simp; (try rfl)) hH ?_
      try simp only [Act.put,aT,aZ,aS]
      refine tk 13 rfl (by kernel_rfl) (fun _ _ _ h => h) rfl (fun w9 hS9 => by go_simp; (try rfl)) hH ?_
      try simp only [Act.put,aT,aZ,aS]
      refine tk 14 rfl (by kernel_rfl) (fun _ _ _ h => h) rfl (fun w9 hS9 => by go_simp; (try rfl)) hH ?_
      try simp only [Act.put,aT,aZ,aS]
      refine tk 15 rfl (by kernel_rfl) (fun _ _ _ h => h) rfl (fun w9 hS9 => by go_simp; (try rfl)) hH ?_
      try simp only [Act.put,aT,aZ,aS]
      refine wpAnyH_done (by kernel_rfl) ?_ _
      go_wp2_with fail
      go_roundw
      case rel => exact ⟨m + 1,rfl,hmt,by rw [hin.out,Bool.false_or],xs.trans hH⟩
      case measure => simp only [intOf]; omega
     ·go_wp2_with fail
      refine wp_region_held_drew (S := Ext ws) (by kernel_rfl) ((Ext.refl ws).drew) (fun hH => ?_)
      refine tk 0 rfl (by kernel_rfl) (fun _ _ _ h => h) rfl (fun w9 hS9 => by go_simp; (try rfl)) hH ?_
      try simp only [Act.put,aT,aZ,aS]
      refine tk 1 rfl (by kernel_rfl) (fun _ _ _ h => h) rfl (fun w9 hS9 => by go_simp; (try rfl)) hH ?_
      try simp only [Act.put,aT,aZ,aS]
      refine tk0 2 rfl (by kernel_rfl) (fun _ _ _ h => h) rfl hH ?_
      try simp only [Act.put,aT,aZ,aS]
      refine tk0 3 rfl (by kernel_rfl) (fun _ _ _ h => h) rfl hH ?_
      try simp only [Act.put,aT,aZ,aS]
      refine tk0 4 rfl (by kernel_rfl) (fun _ _ _ h => h) rfl hH ?_
      try simp only [Act.put,aT,aZ,aS]
      refine tk0 5 rfl (by kernel_rfl) (fun _ _ _ h => h) rfl hH ?_
      try simp only [Act.put,aT,aZ,aS]
      refine tk0 6 rfl (by kernel_rfl) (fun _ _ _ h => h) rfl hH ?_
      try simp only [Act.put,aT,aZ,aS]
      refine tk0 7 rfl (by kernel_rfl) (fun _ _ _ h => h) rfl hH ?_
      try simp only [Act.put,aT,aZ,aS]
      refine tk0 8 rfl (by kernel_rfl) (fun _ _ _ h => h) rfl hH ?_
      try simp only [Act.put,aT,aZ,aS]
      refine tk0 9 rfl (by kernel_rfl) (fun _ _ _ h => h) rfl hH ?_
      try simp only [Act.put,aT,aZ,aS]
      refine tk0 10 rfl (by kernel_rfl) (fun _ _ _ h => h) rfl hH ?_
      try simp only [Act.put,aT,aZ,aS]
      refine tk0 11 rfl (by kernel_rfl) (fun _ _ _ h => h) rfl hH ?_
      try simp only [Act.put,aT,aZ,aS]
      refine tk0 12 rfl (by kernel_rfl) (fun _ _ _ h => h) rfl hH ?_
      try simp only [Act.put,aT,aZ,aS]
      refine tk0 13 rfl (by kernel_rfl) (fun _ _ _ h => h) rfl hH ?_
      try simp only [Act.put,aT,aZ,aS]
      refine tk 14 rfl (by kernel_rfl) (fun _ _ _ h => h) rfl (fun w9 hS9 => by go_simp; (try rfl)) hH ?_
      try simp only [Act.put,aT,aZ,aS]
      refine tk 15 rfl (by kernel_rfl) (fun _ _ _ h => h) rfl (fun w9 hS9 => by go_simp; (try rfl)) hH ?_
      try simp only [Act.put,aT,aZ,aS]
      refine wpAnyH_done (by kernel_rfl) ?_ _
      go_wp2_with fail
      go_roundw
      case rel => exact ⟨m + 1,rfl,hmt,by rw [hin.out,Bool.true_or],xs.trans hH⟩
      case measure => simp only [intOf]; omega
    ·have m1 : ¬ (m : Int) < (nms.length : Int) := by omega
     rw [List.take_of_length_le (by omega)] at hbi
     rw [hbi] at hQ2
     replace hbi := Lib.hid hbi
     cases bi
     rotate_left
     ·have hQ3 : Hid (L = (l.take (k + 1)).filter (fun f => !(inN nms f.nm))) := Lib.hid (by rw [hQ2.out]; simp)
      clear hQ2 hQ hraw
      go_wp2_with fail
      go_roundw
      case rel => exact ⟨k + 1,L,_,rfl,hlt,hO,gX,gA,gR,hQ3,xw,hNo⟩
      case measure => simp only [intOf]; omega
     ·rename World => wo
      have hQ3 : Hid (L ++ [f] = (l.take (k + 1)).filter (fun f => !(inN nms f.nm))) := Lib.hid (by rw [hQ2.out]; simp)
      obtain ⟨f0,f1,f2,f3,f4⟩ := hraw
      clear hQ2 hQ
      go_wp2_with fail
      refine wp_region_held_drew (S := fun W9 => Ext w W9 ∧ BatIn B tn (.slice (some ⟨fb,fo,none⟩) l.length c) W9) (by kernel_rfl) ⟨xw.drew,gA.ext ((Ext.refl _).drew)⟩ (fun hH => ?_)
      refine tk 0 rfl (by kernel_rfl) (fun _ _ _ h => h) rfl (fun w9 hS9 => by go_simp; (try rfl)) hH ?_
      try simp only [Act.put,aT,aZ,aS]
      refine tk 2 rfl (by kernel_rfl) (fun _ _ _ h => h) rfl (fun w9 hS9 => by obtain ⟨c0,c1⟩ := hS9.2.cells; go_simp; (try rfl)) hH ?_
      try simp only [Act.put,aT,aZ,aS]
      refine tk 3 rfl (by kernel_rfl) (fun _ _ _ h => h) rfl (fun w9 hS9 => by obtain ⟨c0,c1⟩ := hS9.2.cells; go_simp; (try rfl)) hH ?_
      try simp only [Act.put,aT,aZ,aS]
      refine tk 4 rfl (by kernel_rfl) (fun _ _ _ h => h) rfl (fun w9 hS9 => by obtain ⟨c0,c1⟩ := hS9.2.cells; go_simp; (try rfl)) hH ?_
      try simp only [Act.put,aT,aZ,aS]
      refine tk 5 rfl (by kernel_rfl) (fun _ _ _ h => h) rfl (fun w9 hS9 => by obtain ⟨c0,c1⟩ := hS9.2.cells; go_simp; (try rfl)) hH ?_
      try simp only [Act.put,aT,aZ,aS]
      refine tk 6 rfl (by kernel_rfl) (fun _ _ _ h => h) rfl (fun w9 hS9 => by replace f0 := (Ext.cell hS9.1 hfb0).trans f0; replace f1 := (Ext.cell hS9.1 hfb0).trans f1; replace f2 := (Ext.cell hS9.1 hfb0).trans f2; replace f3 := (Ext.cell hS9.1 hfb0).trans f3; replace f4 := (Ext.cell hS9.1 hfb0).trans f4; go_simp; (try rfl)) hH ?_
      try simp only [Act.put,aT,aZ,aS]
      obtain ⟨w0,hw0⟩ : ∃ x,wo.drew = x := ⟨_,rfl⟩
      have xc : Ext wo w0 := by rw [← hw0]; exact (Ext.refl _).drew
      rw [hw0] at hH ⊢
      clear hw0
      refine wR (rs := [1,7]) (by kernel_rfl) (by simp) (aR rfl (fun K hK => ?km3047x1) (aR rfl (fun K hK => ?km3047x7) aN))
      case km3047x1 =>
       rw [if_pos (by rfl)]
       obtain ⟨e0,e1⟩ := (gX.ext xc).cells
       go_simp
       refine hK.out _ _ hH (fun hH => ?_)
       clear hK K e0 e1
       try simp only [aT,aZ,aS]
       refine wR (rs := [7]) (by kernel_rfl) (by simp) (aR rfl (fun K hK => ?km3042x7) aN)
       case km3042x7 =>
        rw [if_pos (by rfl)]
        go_simp
        refine hK.out _ _ ⟨hH.1.alloc _,hH.2.ext ((Ext.refl _).alloc _)⟩ (fun hH => ?_)
        clear hK K
        try simp only [aT,aZ,aS]
        obtain ⟨wS,hwS⟩ : ∃ x,w0.alloc (.cells #[.string f.nm,.int .i64 f.k,.string f.un,.string f.he,.slice f.pa f.ps.length f.pc] 35) = x := ⟨_,rfl⟩
        have xs : Ext w0 wS := by rw [← hwS]; exact (Ext.refl _).alloc _
        rw [hwS] at hH ⊢
        have rs : FamsA (some ⟨w0.heap.size,0,none⟩) [f] wS := by rw [← hwS]; exact FamsA.oneF (heap_last _ _) (by rw [hwS]; exact okf.ext hH.1)
        clear hwS
        replace xc := xc.trans xs
        refine wR (rs := [8]) (by kernel_rfl) (by simp) (aR rfl (fun K hK => ?km3041x8) aN)
        case km3041x8 =>
         rw [if_pos (by rfl)]
         have hO3 := hO.ext xc
         obtain ⟨v',w4,ea,h1,h2,h3⟩ := append_structs tyFam (fun _ => rfl) famC_one (by decide) wS 25 N _ L.length (fun i => L[i]?.getD FamD.zero) hO3 (Nat.le_trans hNo xc.size) ⟨w0.heap.size,0,none⟩ 1 1 (fun _ => f) (one_srcF rs) (by have := hLn.out; omega) (by have := hLn.out; omega) (.inr (by decide))
         have xc9 := xw.trans xc
         refine Lib.wp_append_run _ _ _ _ _ rfl _ _ rfl rfl v' w4 ea (hK.out _ _ ⟨grown_ext' xc9 h2 (Nat.le_refl _) (fun g hg => by have := (hO3.lt g hg).1; omega),hH.2.grown h2 (fun g hg => by have := (hO3.lt g hg).1; omega)⟩ (fun hH => ?_))
         clear hK K ea
         try simp only [aT,aZ,aS]
         have hNc := Nat.le_trans hNo xc.size
         have h1' := OwnR.join1 (q := f) h1
         have hlt3 : ∀ g,(Value.slice av L.length cv).ownBlock = some g → N ≤ g := fun g hg => (hO3.lt g hg).1
         have x8 : Ext w w4 := grown_ext' xc9 h2 (Nat.le_refl _) (fun g hg => by have := hlt3 g hg; omega)
         have hN4 : N ≤ w4.heap.size := by have := h2.size; omega
         replace gA := (gA.ext xc).grown h2 (fun g hg => by have := hlt3 g hg; omega)
         replace gR := (gR.ext xc).grown h2 (fun g hg => by have := hlt3 g hg; omega)
         replace gX := (gX.ext xc).grown h2 (fun g hg => by have := hlt3 g hg; omega)
         clear h1 h2 h3 hO3 hlt3 xc
         obtain ⟨a5,c5,hv5⟩ := h1'.form
         subst hv5
         have hO4 := h1'.keep (w' := w4.setCell ⟨X,1,none⟩ (.slice a5 (L ++ [f]).length c5)) (fun g hg => setC_off (by have := (h1'.lt g hg).1; omega))
         have x9 := x8.setC X 1 (.slice a5 (L ++ [f]).length c5) (by omega)
         have hN5 : N ≤ (w4.setCell ⟨X,1,none⟩ (.slice a5 (L ++ [f]).length c5)).heap.size := by rw [World.size_setCell]; exact hN4
         have gA5 := gA.setC X 1 (.slice a5 (L ++ [f]).length c5) (by omega)
         have gR5 := gR.setC X 1 (.slice a5 (L ++ [f]).length c5) (by omega)
         have gX5 := gX.set1 (.slice a5 (L ++ [f]).length c5)
         have fr := fun o => gX.free o
         obtain ⟨e0,e1⟩ := gX.cells
         clear h1' x8 hN4
         obtain ⟨L2,hL2⟩ : ∃ L2,L ++ [f] = L2 := ⟨_,rfl⟩
         rw [hL2] at hQ3 hO4 gX5 gA5 gR5 x9 hN5 ⊢
         clear hL2
         refine tk 9 rfl (by kernel_rfl) (fun _ _ _ h => h) rfl (fun w9 hS9 => by go_simp; (try rfl)) hH ?_
         try simp only [Act.put,aT,aZ,aS]
         refine wR (rs := [10]) (by kernel_rfl) (by simp) (aR rfl (fun K hK => ?km3040x10) aN)
         case km3040x10 =>
          rw [if_pos (by rfl)]
          go_simp
          refine hK.out _ _ ⟨x9,gA5⟩ (fun hH => ?_)
          clear hK K fr e0 e1
          try simp only [aT,aZ,aS]
          refine wpAnyH_done (by kernel_rfl) ?_ _
          go_wp2_with fail
          go_roundw
          case rel => exact ⟨k + 1,L2,_,rfl,hlt,hO4,gX5,gA5,gR5,hQ3,x9,hN5⟩
          case measure => simp only [intOf]; omega
      case km3047x7 =>
       rw [if_pos (by rfl)]
       go_simp
       refine hK.out _ _ ⟨hH.1.alloc _,hH.2.ext ((Ext.refl _).alloc _)⟩ (fun hH => ?_)
       clear hK K
       try simp only [aT,aZ,aS]
       obtain ⟨wS,hwS⟩ : ∃ x,w0.alloc (.cells #[.string f.nm,.int .i64 f.k,.string f.un,.string f.he,.slice f.pa f.ps.length f.pc] 35) = x := ⟨_,rfl⟩
       have xs : Ext w0 wS := by rw [← hwS]; exact (Ext.refl _).alloc _
       rw [hwS] at hH ⊢
       have rs : FamsA (some ⟨w0.heap.size,0,none⟩) [f] wS := by rw [← hwS]; exact FamsA.oneF (heap_last _ _) (by rw [hwS]; exact okf.ext hH.1)
       clear hwS
       replace xc := xc.trans xs
       refine wR (rs := [1]) (by kernel_rfl) (by simp) (aR rfl (fun K hK => ?km3046x1) aN)
       case km3046x1 =>
        rw [if_pos (by rfl)]
        obtain ⟨e0,e1⟩ := (gX.ext xc).cells
        go_simp
        refine hK.out _ _ hH (fun hH => ?_)
        clear hK K e0 e1
        try simp only [aT,aZ,aS]
        refine wR (rs := [8]) (by kernel_rfl) (by simp) (aR rfl (fun K hK => ?km3045x8) aN)
        case km3045x8 =>
         rw [if_pos (by rfl)]
         have hO3 := hO.ext xc
         obtain ⟨v',w4,ea,h1,h2,h3⟩ := append_structs tyFam (fun _ => rfl) famC_one (by decide) wS 25 N _ L.length (fun i => L[i]?.getD FamD.zero) hO3 (Nat.le_trans hNo xc.size) ⟨w0.heap.size,0,none⟩ 1 1 (fun _ => f) (one_srcF rs) (by have := hLn.out; omega) (by have := hLn.out; omega) (.inr (by decide))
         have xc9 := xw.trans xc
         refine Lib.wp_append_run _ _ _ _ _ rfl _ _ rfl rfl v' w4 ea (hK.out _ _ ⟨grown_ext' xc9 h2 (Nat.le_refl _) (fun g hg => by have := (hO3.lt g hg).1; omega),hH.2.grown h2 (fun g hg => by have := (hO3.lt g hg).1; omega)⟩ (fun hH => ?_))
         clear hK K ea
         try simp only [aT,aZ,aS]
         have hNc := Nat.le_trans hNo xc.size
         have h1' := OwnR.join1 (q := f) h1
         have hlt3 : ∀ g,(Value.slice av L.length cv).ownBlock = some g → N ≤ g := fun g hg => (hO3.lt g hg).1
         have x8 : Ext w w4 := grown_ext' xc9 h2 (Nat.le_refl _) (fun g hg => by have := hlt3 g hg; omega)
         have hN4 : N ≤ w4.heap.size := by have := h2.size; omega
         replace gA := (gA.ext xc).grown h2 (fun g hg => by have := hlt3 g hg; omega)
         replace gR := (gR.ext xc).grown h2 (fun g hg => by have := hlt3 g hg; omega)
         replace gX := (gX.ext xc).grown h2 (fun g hg => by have := hlt3 g hg; omega)
         clear h1 h2 h3 hO3 hlt3 xc
         obtain ⟨a5,c5,hv5⟩ := h1'.form
         subst hv5
         have hO4 := h1'.keep (w' := w4.setCell ⟨X,1,none⟩ (.slice a5 (L ++ [f]).length c5)) (fun g hg => setC_off (by have := (h1'.lt g hg).1; omega))
         have x9 := x8.setC X 1 (.slice a5 (L ++ [f]).length c5) (by omega)
         have hN5 : N ≤ (w4.setCell ⟨X,1,none⟩ (.slice a5 (L ++ [f]).length c5)).heap.size := by rw [World.size_setCell]; exact hN4
         have gA5 := gA.setC X 1 (.slice a5 (L ++ [f]).length c5) (by omega)
         have gR5 := gR.setC X 1 (.slice a5 (L ++ [f]).length c5) (by omega)
         have gX5 := gX.set1 (.slice a5 (L ++ [f]).length c5)
         have fr := fun o => gX.free o
         obtain ⟨e0,e1⟩ := gX.cells
         clear h1' x8 hN4
         obtain ⟨L2,hL2⟩ : ∃ L2,L ++ [f] = L2 := ⟨_,rfl⟩
         rw [hL2] at hQ3 hO4 gX5 gA5 gR5 x9 hN5 ⊢
         clear hL2
         refine tk 9 rfl (by kernel_rfl) (fun _ _ _ h => h) rfl (fun w9 hS9 => by go_simp; (try rfl)) hH ?_
         try simp only [Act.put,aT,aZ,aS]
         refine wR (rs := [10]) (by kernel_rfl) (by simp) (aR rfl (fun K hK => ?km3044x10) aN)
         case km3044x10 =>
          rw [if_pos (by rfl)]
          go_simp
          refine hK.out _ _ ⟨x9,gA5⟩ (fun hH => ?_)
          clear hK K fr e0 e1
          try simp only [aT,aZ,aS]
          refine wpAnyH_done (by kernel_rfl) ?_ _
          go_wp2_with fail
          go_roundw
          case rel => exact ⟨k + 1,L2,_,rfl,hlt,hO4,gX5,gA5,gR5,hQ3,x9,hN5⟩
          case measure => simp only [intOf]; omega
  ·have i0 : ¬ (k : Int) < (l.length : Int) := by omega
   have hL : Hid (L = l.filter (fun f => !(inN nms f.nm))) := Lib.hid (by rw [hQ.out,List.take_of_length_le (by omega)])
   have hRF := hO.rowF
   have hfin := ((hRF.setC (B + 1) 0 (.string tn) (by omega)).setC (B + 1) 1 (.slice av L.length cv) (by omega))
   have XF := (xw.setC (B + 1) 0 (.string tn) hwB).setC (B + 1) 1 (.slice av L.length cv) hwB
   have V : Hid (FamsA av L (((wr.setCell ⟨B + 1,0,none⟩ (.string tn)).setCell ⟨B + 1,1,none⟩ (.slice av L.length cv))) ∧ L.map FamD.y = (l.map FamD.y).filter (fun f => !(decide (f.nm ∈ nms)))) := Lib.hid ⟨hfin.fams (fun f hf => by
    rw [hL.out] at hf
    exact (okF f (List.mem_filter.1 hf).1).ext XF),by
    rw [hL.out,List.filter_map]
    have e : (fun f : FamD => !(inN nms f.nm)) = ((fun f : FamY => !(decide (f.nm ∈ nms))) ∘ FamD.y) := funext (fun f => by
     show (!(inN nms f.nm)) = !(decide (f.nm ∈ nms))
     rw [inN_is])
    rw [e]⟩
   replace XF := Lib.hid XF
   obtain ⟨e0,e1⟩ := gX.cells
   obtain ⟨z0,z1⟩ := gR.cells
   have fr := fun o => gR.free o
   clear hQ hL hRF hfin hO
   go_wp2_with fail
   refine bodyPost_ret (v := .agg #[.string tn,.slice av L.length cv]) ?_ rfl ⟨⟨av,cv,L,rfl,V.out.2,V.out.1⟩,XF.out⟩
   simp [results,Tryz.results28,go_sem,z0,z1]
end Go.Proofs.YtjjnmefihdjglaaGreat
