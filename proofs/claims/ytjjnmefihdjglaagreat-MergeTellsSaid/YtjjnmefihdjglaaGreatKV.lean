import Derived.Test.YtjjnmefihdjglaaGreatKT
set_option maxRecDepth 100000
set_option maxHeartbeats 64000000
set_option linter.all false
namespace Go.Proofs.YtjjnmefihdjglaaGreat
open Go.RowKit
def StrsA (a : Option Addr) (l : List ByteArray) (w : World) : Prop := 0 < l.length → ∃ b o,a = some ⟨b,o,none⟩ ∧ b < w.heap.size ∧ ∀ i (h : i < l.length),w.cell? ⟨b,o + i,none⟩ = some (.string l[i])
theorem StrsA.ext {a : Option Addr} {l : List ByteArray} {w w' : World} (h : StrsA a l w) (x : Ext w w') : StrsA a l w' := fun h0 => by
 obtain ⟨b,o,e,hb,hA⟩ := h h0
 exact ⟨b,o,e,Nat.lt_of_lt_of_le hb x.size,fun i hi => (Ext.cell x hb).trans (hA i hi)⟩
instance memDec (s : ByteArray) (l : List ByteArray) : Decidable (s ∈ l) := decidable_of_iff (l.any (fun x => decide (s = x)) = true) (by simp)
def strAt (s : ByteArray) : Nat → List ByteArray → Int
 | _,[] => -1
 | i,x :: l => if s = x then i else strAt s (i + 1) l
theorem strAt_in (s : ByteArray) : ∀ (l : List ByteArray) (i : Nat),decide (strAt s i l ≥ 0) = decide (s ∈ l)
 | [],i => by simp [strAt]
 | x :: l,i => by
   unfold strAt
   by_cases h : s = x
   ·rw [if_pos h]; simp [h]
   ·rw [if_neg h,strAt_in s l (i + 1)]
    exact decide_eq_decide.2 ⟨fun k => by simp [k],fun k => by
     rcases List.mem_cons.1 k with k | k
     ·exact absurd k h
     ·exact k⟩
theorem indexStr_any (s : ByteArray) (a : Option Addr) (c : Nat) (l : List ByteArray) (w : World) (hl : l.length ≤ 1000000) (hA : StrsA a l w) :
  Calls Tryz.prog 81 #[.slice a l.length c,.string s] w fun e w' => e = .returned (.int .i64 (strAt s 0 l)) ∧ Ext w w' := by
 obtain ⟨R,hR⟩ : ∃ R,strAt s 0 l = R := ⟨_,rfl⟩
 rw [hR]
 go_enter Tryz.func81,Tryz.ntmps81
 go_wp2_with fail
 go_loopw [8] (fun i wr => ∃ j : Nat,i = .int .i64 j ∧ j ≤ l.length ∧ Hid (strAt s j (l.drop j) = R) ∧ Ext w wr) (fun i _ => l.length - (intOf i).toNat)
 case atStart => exact ⟨0,rfl,Nat.zero_le _,Lib.hid hR,Ext.refl _⟩
 case round =>
  obtain ⟨j,rfl,hk,hg,xr⟩ := hrel
  clear hR
  by_cases hlt : j < l.length
  ·have hd := hg.out
   rw [List.drop_eq_getElem_cons hlt] at hd
   unfold strAt at hd
   obtain ⟨b1,o1,rfl,hb1,hL⟩ := hA (by omega)
   have p0 := (Ext.cell xr hb1).trans (hL j hlt)
   generalize l[j] = p at *
   have en := eq_is s p
   by_cases h : s = p
   ·rw [if_pos h] at hd
    rw [decide_eq_true h] at en
    replace hd := Lib.hid hd
    clear hL hA hg h
    go_wp2_with fail
    go_ret
    exact ⟨retI hd.out,xr⟩
   ·rw [if_neg h] at hd
    rw [decide_eq_false h] at en
    replace hd := Lib.hid hd
    clear hL hA hg h
    go_wp2_with fail
    go_roundw
    case rel => exact ⟨j + 1,rfl,hlt,hd,xr⟩
    case measure => simp only [intOf]; omega
  ·have hd := hg.out
   rw [show l.drop j = [] from List.drop_eq_nil_of_le (by omega)] at hd
   replace hd : Hid ((-1 : Int) = R) := Lib.hid hd
   have hk3 : l.length ≤ j := by omega
   clear hk hg hA hlt
   go_wp2_with fail
   go_ret
   exact ⟨retI hd.out,xr⟩
theorem hasStr_any (s : ByteArray) (a : Option Addr) (c : Nat) (l : List ByteArray) (w : World) (hl : l.length ≤ 1000000) (hA : StrsA a l w) :
  Calls Tryz.prog 53 #[.slice a l.length c,.string s] w fun e w' => e = .returned (.bool (decide (s ∈ l))) ∧ Ext w w' := by
 have C := fun W (x : Ext w W) => indexStr_any s a c l W hl (hA.ext x)
 rw [← strAt_in s l 0]
 generalize strAt s 0 l = i at *
 clear hA
 go_enter Tryz.func53,Tryz.ntmps53
 go_wp2_with fail
 (with_reducible refine (C _ (Ext.refl _)).mono ?_)
 rintro e w1 ⟨rfl,x1⟩
 go_wp2_with fail
 go_ret
 exact ⟨rfl,x1⟩
def NmsIn (b : Nat) (v : Value) (w : World) : Prop := w.heap[b]? = some (.cells #[v] 56 (0,0))
theorem NmsIn.ext {b : Nat} {v : Value} {w w' : World} (h : NmsIn b v w) (x : Ext w w') : NmsIn b v w' := (x.heap (Array.getElem?_eq_some_iff.1 h).1).trans h
theorem NmsIn.cell {b : Nat} {v : Value} {w : World} (h : NmsIn b v w) : w.cell? ⟨b,0,none⟩ = some v := by rw [Lib.cell_of_heap h]; rfl
theorem NmsIn.sta {P : Nat → Prop} {b : Nat} {v : Value} {w w' : World} (h : NmsIn b v w) (s : Sta P w w') (hp : P b) : NmsIn b v w' := (s.blk b (Array.getElem?_eq_some_iff.1 h).1 hp).trans h
theorem gone_any (b : Nat) (f : FamD) (a : Option Addr) (c : Nat) (l : List ByteArray) (w : World) (h : NmsIn b (.slice a l.length c) w) (hl : l.length ≤ 1000000) (hA : StrsA a l w) :
  Calls Tryz.prog 52 #[f.v,.pointer (some ⟨b,0,none⟩)] w fun e w' => e = .returned (.bool (decide (f.nm ∈ l))) ∧ Ext w w' := by
 have c0 := h.cell
 have hb : b < w.heap.size := (Array.getElem?_eq_some_iff.1 h).1
 have C := fun W (x : Ext w W) => hasStr_any f.nm a c l W hl (hA.ext x)
 generalize decide (f.nm ∈ l) = g at *
 unfold FamD.v
 have hx : Ext w (w.alloc (.cells #[.string f.nm,.int .i64 f.k,.string f.un,.string f.he,.slice f.pa f.ps.length f.pc] 35)) := (Ext.refl _).alloc _
 clear h hA
 go_enter Tryz.func52,Tryz.ntmps52
 go_wp2_with fail
 (with_reducible refine (C _ hx).mono ?_)
 rintro e w1 ⟨rfl,x1⟩
 go_wp2_with fail
 go_ret
 exact ⟨rfl,hx.trans x1⟩
def goneAt (nms : List ByteArray) : Nat → List FamD → Int
 | _,[] => -1
 | i,f :: l => if f.nm ∈ nms then i else goneAt nms (i + 1) l
theorem goneAt_cases (nms : List ByteArray) : ∀ (l : List FamD) (i : Nat),(goneAt nms i l = -1 ∧ ∀ f ∈ l,f.nm ∉ nms) ∨ ∃ j,∃ h : j < l.length,goneAt nms i l = ((i + j : Nat) : Int) ∧ l[j].nm ∈ nms ∧ ∀ x,∀ hx : x < j,(l[x]'(Nat.lt_trans hx h)).nm ∉ nms
 | [],i => .inl ⟨rfl,fun f hf => by cases hf⟩
 | f :: l,i => by
   unfold goneAt
   by_cases h : f.nm ∈ nms
   ·rw [if_pos h]
    exact .inr ⟨0,by simp,by simp,h,fun x hx => absurd hx (Nat.not_lt_zero _)⟩
   ·rw [if_neg h]
    rcases goneAt_cases nms l (i + 1) with ⟨h1,h2⟩ | ⟨j,hj,h1,h2,h3⟩
    ·refine .inl ⟨h1,fun g hg => ?_⟩
     rcases List.mem_cons.1 hg with rfl | hg
     ·exact h
     ·exact h2 g hg
    ·refine .inr ⟨j + 1,by simp; omega,by rw [h1]; congr 1; omega,by simpa using h2,fun x hx => ?_⟩
     cases x with
     | zero => exact h
     | succ x => exact h3 x (by omega)
theorem indexGone_any (b : Nat) (na : Option Addr) (nc : Nat) (nms : List ByteArray) (a : Option Addr) (c : Nat) (l : List FamD) (w : World) (h : NmsIn b (.slice na nms.length nc) w) (hn : nms.length ≤ 1000000) (hN : StrsA na nms w) (hl : l.length ≤ 1000000) (hA : FamsA a l w) :
  Calls Tryz.prog 80 #[.slice a l.length c,.func (.func 52) #[] #[.pointer (some ⟨b,0,none⟩)]] w fun e w' => e = .returned (.int .i64 (goneAt nms 0 l)) ∧ Ext w w' := by
 obtain ⟨R,hR⟩ : ∃ R,goneAt nms 0 l = R := ⟨_,rfl⟩
 rw [hR]
 go_enter Tryz.func80,Tryz.ntmps80
 go_wp2_with fail
 go_loopw [8] (fun i wr => ∃ j : Nat,i = .int .i64 j ∧ j ≤ l.length ∧ Hid (goneAt nms j (l.drop j) = R) ∧ Ext w wr) (fun i _ => l.length - (intOf i).toNat)
 case atStart => exact ⟨0,rfl,Nat.zero_le _,Lib.hid hR,Ext.refl _⟩
 case round =>
  obtain ⟨j,rfl,hk,hg,xr⟩ := hrel
  clear hR
  by_cases hlt : j < l.length
  ·have hd := hg.out
   rw [List.drop_eq_getElem_cons hlt] at hd
   unfold goneAt at hd
   obtain ⟨b1,o1,rfl,hb1,hL⟩ := hA.1 (by omega)
   obtain ⟨p0,p1,p2,p3,p4⟩ := hL j hlt
   generalize l[j] = p at *
   have C := gone_any b p na nc nms wr (h.ext xr) hn (hN.ext xr)
   obtain ⟨g,hg2⟩ : ∃ g,decide (p.nm ∈ nms) = g := ⟨_,rfl⟩
   rw [hg2] at C
   unfold FamD.v at C
   replace p0 := (Ext.cell xr hb1).trans p0
   replace p1 := (Ext.cell xr hb1).trans p1
   replace p2 := (Ext.cell xr hb1).trans p2
   replace p3 := (Ext.cell xr hb1).trans p3
   replace p4 := (Ext.cell xr hb1).trans p4
   clear hL hA hg
   cases g
   ·rw [if_neg (of_decide_eq_false hg2)] at hd
    replace hd := Lib.hid hd
    clear hg2
    go_wp2_with fail
    (with_reducible refine C.mono ?_)
    rintro e w1 ⟨rfl,x1⟩
    clear p0 p1 p2 p3 p4
    go_wp2_with fail
    go_roundw
    case rel => exact ⟨j + 1,rfl,hlt,hd,xr.trans x1⟩
    case measure => simp only [intOf]; omega
   ·rw [if_pos (of_decide_eq_true hg2)] at hd
    replace hd := Lib.hid hd
    clear hg2
    go_wp2_with fail
    (with_reducible refine C.mono ?_)
    rintro e w1 ⟨rfl,x1⟩
    clear p0 p1 p2 p3 p4
    go_wp2_with fail
    go_ret
    exact ⟨retI hd.out,xr.trans x1⟩
  ·have hd := hg.out
   rw [show l.drop j = [] from List.drop_eq_nil_of_le (by omega)] at hd
   replace hd : Hid ((-1 : Int) = R) := Lib.hid hd
   have hk3 : l.length ≤ j := by omega
   clear hk hg hA hlt
   go_wp2_with fail
   go_ret
   exact ⟨retI hd.out,xr⟩
theorem gtrans {u v w : World} {r : Option Nat} (h1 : u.grownBy v r) (h2 : v.grownBy w r) : u.grownBy w r :=
 ⟨h2.os.trans h1.os,h2.tape.trans h1.tape,h2.output.trans h1.output,Nat.le_trans h1.size h2.size,fun k hk hn => (h2.block k (Nat.lt_of_lt_of_le hk h1.size) hn).trans (h1.block k hk hn)⟩
theorem StrsA.sta {P : Nat → Prop} {a : Option Addr} {l : List ByteArray} {w w' : World} (h : StrsA a l w) (s : Sta P w w') (ha : ∀ x,a = some x → P x.block) : StrsA a l w' := fun h0 => by
 obtain ⟨b,o,e,hb,hA⟩ := h h0
 have hn := ha _ e
 exact ⟨b,o,e,Nat.lt_of_lt_of_le hb s.size,fun i hi => (s.cell (p := ⟨b,o + i,none⟩) hb hn).trans (hA i hi)⟩
theorem run_clear_k {P : Program} (w : World) (t e ty : TypeId) (z : Value) (ht : P.underlying t = some (.slice e)) (hv : ∀ w,(zeroValue e).run P w = .ok z w) (b o n c : Nat) (hn : 0 < n)
  (h1 : ∀ v ∈ (Builtin.zeroCells z.cells n).toList,v.oneCell' = true)
  (hc : ∀ j,j < (Builtin.zeroCells z.cells n).toList.length → (w.cell? ⟨b,o + j,none⟩).isSome = true) (hf : ∀ j,j < (Builtin.zeroCells z.cells n).toList.length → w.frozen? ⟨b,o + j,none⟩ = false) :
  (Builtin.clear_ #[t] ty #[.slice (some ⟨b,o,none⟩) n c]).run P w = .ok (.tuple #[]) (w.setCells b o (Builtin.zeroCells z.cells n).toList) := by
 have hst := run_storeCells_cells (P := P) b o (Builtin.zeroCells z.cells n).toList 0 w (by simpa using hc) (by simpa using hf) h1
 simp only [Nat.add_zero] at hst
 obtain ⟨m,rfl⟩ : ∃ m,n = m + 1 := ⟨n - 1,by omega⟩
 simp [Builtin.clear_,run_underlying ht,hv,hst]
theorem OwnR.inv {base g n cap : Nat} {d : Nat → FamD} {W : World} (h : OwnR 5 35 FamD.cs base (.slice (some ⟨g,0,none⟩) n cap) n d W) :
  base ≤ g ∧ n ≤ cap ∧ ∃ c,W.heap[g]? = some (.cells c 35 (0,0)) ∧ c.size = cap * 5 ∧ ∀ i,i < n → ∀ j,j < 5 → c[i * 5 + j]? = (FamD.cs (d i))[j]? := by
 rcases h with ⟨e,_⟩ | ⟨g',cap',e,h1,h2,h3⟩
 ·cases e
 ·injection e with e1 _ e2
  injection e1 with e1
  injection e1 with e1 _ _
  subst e1 e2
  exact ⟨h1,h2,h3⟩
theorem OwnR.rowE {base g n cap : Nat} {d : Nat → FamD} {W : World} (h : OwnR 5 35 FamD.cs base (.slice (some ⟨g,0,none⟩) n cap) n d W) : RowE 5 35 FamD.cs g n d W := by
 obtain ⟨_,h2,c,h3,h4,h5⟩ := h.inv
 exact ⟨c,h3,by rw [h4]; exact Nat.mul_le_mul_right 5 h2,h5⟩
theorem OwnR.setK {base g n cap i : Nat} {d : Nat → FamD} {W : World} (h : OwnR 5 35 FamD.cs base (.slice (some ⟨g,0,none⟩) n cap) n d W) (hi : i < n) (p : FamD) :
  OwnR 5 35 FamD.cs base (.slice (some ⟨g,0,none⟩) n cap) n (fun x => if x = i then p else d x) (W.setCells g (i * 5) (FamD.cs p)) := by
 obtain ⟨h1,h2,c,h3,h4,h5⟩ := h.inv
 have hcs : (W.setCells g (i * 5) (FamD.cs p)).heap[g]? = some (.cells (setL c (i * 5) (FamD.cs p)) 35 (0,0)) := heap_setCells g _ _ _ _ _ _ h3
 have hl : (FamD.cs p).length = 5 := rfl
 refine .inr ⟨g,cap,rfl,h1,h2,setL c (i * 5) (FamD.cs p),hcs,?_,fun x hx y hy => ?_⟩
 ·rw [setL_size]; exact h4
 ·dsimp only
  by_cases e : x = i
  ·subst e
   rw [if_pos rfl]
   exact setL_in _ _ _ _ (by omega) (by have := row_le (K := 5) hi; omega)
  ·rw [if_neg e,setL_out _ _ _ _ (by
    rw [hl]
    rcases Nat.lt_or_gt_of_ne e with h | h
    ·have := row_le (K := 5) h; omega
    ·have := row_le (K := 5) h; omega)]
   exact h5 x hx y hy
theorem OwnR.cut {base g n cap i : Nat} {d : Nat → FamD} {W : World} (h : OwnR 5 35 FamD.cs base (.slice (some ⟨g,0,none⟩) n cap) n d W) (hi : i ≤ n) (zs : List Value) :
  OwnR 5 35 FamD.cs base (.slice (some ⟨g,0,none⟩) i cap) i d (W.setCells g (i * 5) zs) := by
 obtain ⟨h1,h2,c,h3,h4,h5⟩ := h.inv
 have hcs : (W.setCells g (i * 5) zs).heap[g]? = some (.cells (setL c (i * 5) zs) 35 (0,0)) := heap_setCells g _ _ _ _ _ _ h3
 refine .inr ⟨g,cap,rfl,h1,Nat.le_trans hi h2,_,hcs,by rw [setL_size]; exact h4,fun x hx j hj => ?_⟩
 rw [setL_out _ _ _ _ (.inl (by have := row_le (K := 5) hx; omega))]
 exact h5 x (by omega) j hj
theorem RowE.five {g n j : Nat} {d : Nat → FamD} {w : World} (h : RowE 5 35 FamD.cs g n d w) (hj : j < n) {p : FamD} (hp : d j = p) :
  w.cell? ⟨g,j * 5,none⟩ = some (.string p.nm) ∧ w.cell? ⟨g,j * 5 + 1,none⟩ = some (.int .i64 p.k) ∧ w.cell? ⟨g,j * 5 + 2,none⟩ = some (.string p.un) ∧ w.cell? ⟨g,j * 5 + 3,none⟩ = some (.string p.he) ∧ w.cell? ⟨g,j * 5 + 4,none⟩ = some (.slice p.pa p.ps.length p.pc) := by
 subst hp
 have C := fun x v hx hv => h.cell j x v hj hx hv
 exact ⟨C 0 _ (by decide) rfl,C 1 _ (by decide) rfl,C 2 _ (by decide) rfl,C 3 _ (by decide) rfl,C 4 _ (by decide) rfl⟩
def kept (nms : List ByteArray) (L : List FamD) : List FamD := L.filter (fun f => !(decide (f.nm ∈ nms)))
theorem del_any (base : Nat) (v : Value) (L : List FamD) (w : World) (hO : OwnF base v L w) (b : Nat) (na : Option Addr) (nc : Nat) (nms : List ByteArray) (h : NmsIn b (.slice na nms.length nc) w) (hb : b < base) (hN : StrsA na nms w) (hn : nms.length ≤ 1000000)
  (hNb : ∀ x,0 < nms.length → na = some x → x.block < base) (hl : L.length ≤ 1000) :
  Calls Tryz.prog 51 #[v,.func (.func 52) #[] #[.pointer (some ⟨b,0,none⟩)]] w fun e w' => (∃ v',e = .returned v' ∧ OwnF base v' (kept nms L) w') ∧ w.grownBy w' v.ownBlock := by
 obtain ⟨av,cv,rfl,hA⟩ := hO.fams
 have IX := indexGone_any b na nc nms av cv L w h hn hN (by omega) hA
 obtain ⟨r,hr⟩ : ∃ r,goneAt nms 0 L = r := ⟨_,rfl⟩
 have hcs := goneAt_cases nms L 0
 rw [hr] at IX hcs
 rcases hcs with ⟨h1,h2⟩ | ⟨j0,hj0,h1,h2,h3⟩
 ·subst h1
  have hk : kept nms L = L := List.filter_eq_self.2 (fun f hf => by simp [h2 f hf])
  replace hk := Lib.hid hk
  clear h2 hr hA
  go_enter Tryz.func51,Tryz.ntmps51
  go_wp2_with fail
  (with_reducible refine IX.mono ?_)
  rintro e w1 ⟨rfl,x1⟩
  go_wp2_with fail
  go_ret
  exact ⟨⟨_,rfl,by rw [hk.out]; exact hO.ext x1⟩,x1.grown _⟩
 ·obtain ⟨g,capx,hgv,hg1,_⟩ := hO.1.row (by omega)
  injection hgv with e1 _ e3
  subst e1 e3
  obtain ⟨n,hnn⟩ : ∃ n,L.length = n := ⟨_,rfl⟩
  obtain ⟨hO1,hO2⟩ := hO
  have hrj : r = (j0 : Int) := by omega
  subst hrj
  have hrb : ((j0 : Int) == -1) = false := by rw [beq_eq_false_iff_ne]; omega
  have hcap := hO1.inv.2.1
  have hK0 : Hid ((L.take (j0 + 1)).filter (fun f => !(decide (f.nm ∈ nms))) = L.take j0) := Lib.hid (by
   rw [List.take_add_one,List.getElem?_eq_getElem hj0,List.filter_append]
   have e1 : (L.take j0).filter (fun f => !(decide (f.nm ∈ nms))) = L.take j0 := List.filter_eq_self.2 (fun f hf => by
    obtain ⟨x,hx,e⟩ := List.getElem_of_mem hf
    rw [List.length_take] at hx
    rw [List.getElem_take] at e
    have := h3 x (by omega)
    rw [e] at this
    simp [this])
   rw [e1]
   simp [h2])
  rw [hnn] at hO1 hO2 IX hcap hj0 ⊢
  have i0 : (0 : Int) ≤ (j0 : Int) := by omega
  clear hr h1 h2 h3 hA
  go_enter Tryz.func51,Tryz.ntmps51
  go_wp2_with fail
  (with_reducible refine IX.mono ?_)
  rintro e w1 ⟨rfl,x1⟩
  clear IX
  have g1 := x1.grown (some g)
  have hO3 := hO1.ext x1
  have hs1 := Ext.sta x1 (fun j => j ≠ g)
  have hN1 := hN.ext x1
  have hM1 := h.ext x1
  go_wp2_with fail
  go_loopw [5,6] (fun s t wr => ∃ (i j : Nat) (d : Nat → FamD),s = .int .i64 i ∧ t = .int .i64 j ∧ i < j ∧ j ≤ n ∧ OwnR 5 35 FamD.cs base (.slice (some ⟨g,0,none⟩) n cv) n d wr ∧
   Hid (((L.take j).filter (fun f => !(decide (f.nm ∈ nms)))).length = i ∧ (∀ x,x < i → ((L.take j).filter (fun f => !(decide (f.nm ∈ nms))))[x]? = some (d x)) ∧ ∀ x,j ≤ x → x < n → d x = L[x]?.getD FamD.zero) ∧ w.grownBy wr (some g)) (fun _ t _ => n - (intOf t).toNat)
  case atStart =>
   refine ⟨j0,j0 + 1,fun i => L[i]?.getD FamD.zero,rfl,by simp,by omega,by omega,hO3,Lib.hid ?_,g1⟩
   rw [hK0.out]
   refine ⟨by rw [List.length_take]; omega,fun x hx => ?_,fun x _ _ => rfl⟩
   rw [List.getElem?_take_of_lt hx,List.getElem?_eq_getElem (show x < L.length by omega)]
   simp [show x < L.length by omega]
  case round =>
   clear hO3 hs1 hN1 hM1 g1 x1
   obtain ⟨i,j,d,rfl,rfl,hij,hj,hR,hQ,hg⟩ := hrel
   have st := sta_grown hg
   have hNr : StrsA na nms wr := fun h0 => hN.sta st (fun x hx k hk => by injection hk with hk; have := hNb x h0 hx; omega) h0
   have hMr := h.sta st (fun k hk => by injection hk with hk; omega)
   by_cases hjt : j < n
   ·have hjL : j < L.length := by omega
    have hdj : d j = L[j] := by rw [hQ.out.2.2 j (Nat.le_refl _) hjt,List.getElem?_eq_getElem hjL]; rfl
    obtain ⟨q0,q1,q2,q3,q4⟩ := hR.rowE.five hjt hdj
    obtain ⟨p,hp⟩ : ∃ p,L[j] = p := ⟨_,rfl⟩
    rw [hp] at q0 q1 q2 q3 q4
    have htk : L.take (j + 1) = L.take j ++ [p] := by rw [List.take_add_one,List.getElem?_eq_getElem hjL,hp]; rfl
    have xa := (Ext.refl wr).alloc (.cells #[.string p.nm,.int .i64 p.k,.string p.un,.string p.he,.slice p.pa p.ps.length p.pc] 35)
    have gP : FamIn wr.heap.size p.nm p.k p.un p.he (.slice p.pa p.ps.length p.pc) (wr.alloc (.cells #[.string p.nm,.int .i64 p.k,.string p.un,.string p.he,.slice p.pa p.ps.length p.pc] 35)) := heap_last _ _
    have GA := gone_any b p na nc nms (wr.alloc (.cells #[.string p.nm,.int .i64 p.k,.string p.un,.string p.he,.slice p.pa p.ps.length p.pc] 35)) (hMr.ext xa) hn (hNr.ext xa)
    unfold FamD.v at GA
    obtain ⟨D,hD⟩ : ∃ D,decide (p.nm ∈ nms) = D := ⟨_,rfl⟩
    rw [hD] at GA
    have j1 : (j : Int) < (n : Int) := by omega
    have i1 : (i : Int) < (n : Int) := by omega
    have hQs : Hid (D = true → ((L.take (j + 1)).filter (fun f => !(decide (f.nm ∈ nms)))).length = i ∧ (∀ x,x < i → ((L.take (j + 1)).filter (fun f => !(decide (f.nm ∈ nms))))[x]? = some (d x)) ∧ ∀ x,j + 1 ≤ x → x < n → d x = L[x]?.getD FamD.zero) := Lib.hid (fun h => by
     have e : (L.take (j + 1)).filter (fun f => !(decide (f.nm ∈ nms))) = (L.take j).filter (fun f => !(decide (f.nm ∈ nms))) := by
      rw [htk,List.filter_append]
      simp [hD,h]
     rw [e]
     exact ⟨hQ.out.1,hQ.out.2.1,fun x hx hx2 => hQ.out.2.2 x (by omega) hx2⟩)
    have hQk : Hid (D = false → ((L.take (j + 1)).filter (fun f => !(decide (f.nm ∈ nms)))).length = i + 1 ∧ (∀ x,x < i + 1 → ((L.take (j + 1)).filter (fun f => !(decide (f.nm ∈ nms))))[x]? = some ((fun x => if x = i then p else d x) x)) ∧ ∀ x,j + 1 ≤ x → x < n → (fun x => if x = i then p else d x) x = L[x]?.getD FamD.zero) := Lib.hid (fun h => by
     have e : (L.take (j + 1)).filter (fun f => !(decide (f.nm ∈ nms))) = (L.take j).filter (fun f => !(decide (f.nm ∈ nms))) ++ [p] := by
      rw [htk,List.filter_append]
      simp [hD,h]
     rw [e]
     refine ⟨by rw [List.length_append,hQ.out.1]; rfl,fun x hx => ?_,fun x hx hx2 => ?_⟩
     ·by_cases e2 : x = i
      ·subst e2
       rw [List.getElem?_append_right (by rw [hQ.out.1]; exact Nat.le_refl _),hQ.out.1]
       simp
      ·rw [List.getElem?_append_left (by rw [hQ.out.1]; omega),hQ.out.2.1 x (by omega)]
       simp [e2]
     ·dsimp only
      rw [if_neg (by omega)]
      exact hQ.out.2.2 x (by omega) hx2)
    clear hQ hdj htk hp hD hMr hNr
    go_wp2_with fail
    (with_reducible refine GA.mono ?_)
    rintro e w5 ⟨rfl,x5⟩
    have y5 := xa.trans x5
    have hR5 := hR.ext y5
    have hg5 := gtrans hg (y5.grown (some g))
    clear GA q0 q1 q2 q3 q4
    obtain ⟨p0,p1,p2,p3,p4⟩ := (gP.ext x5).cells
    cases D
    ·have hQ2 := Lib.hid (hQk.out rfl)
     obtain ⟨q0,q1,q2,q3,q4⟩ := hR5.rowE.five (j := i) (by omega) rfl
     have fr := fun o => hR5.rowE.free o
     have hR6 := hR5.setK (i := i) (by omega) p
     have hg6 := gtrans hg5 (grownBy_setCells w5 g (i * 5) (FamD.cs p))
     simp only [FamD.cs,World.setCells] at hR6 hg6
     clear hQs hQk hR hg hR5 hg5
     go_wp2_with fail
     go_roundw
     case rel => exact ⟨i + 1,j + 1,_,rfl,rfl,by omega,hjt,hR6,hQ2,hg6⟩
     case measure => simp only [intOf]; omega
    ·have hQ2 := Lib.hid (hQs.out rfl)
     clear hQs hQk hR hg
     go_wp2_with fail
     go_roundw
     case rel => exact ⟨i,j + 1,d,rfl,rfl,by omega,hjt,hR5,hQ2,hg5⟩
     case measure => simp only [intOf]; omega
   ·obtain rfl : j = n := by omega
    have hK : Hid (kept nms L = (L.take j).filter (fun f => !(decide (f.nm ∈ nms)))) := Lib.hid (by unfold kept; rw [List.take_of_length_le (by omega)])
    have hin : i ≤ j := by omega
    have hinv := hR.inv
    obtain ⟨_,_,cc,hcc,hccs,_⟩ := hinv
    have hzl : (Builtin.zeroCells (.agg #[.string ⟨#[]⟩,.int .i64 0,.string ⟨#[]⟩,.string ⟨#[]⟩,.slice none 0 0] : Value).cells (j - i)).toList.length = (j - i) * 5 := by
     have := size_zeroCells (.agg #[.string ⟨#[]⟩,.int .i64 0,.string ⟨#[]⟩,.string ⟨#[]⟩,.slice none 0 0] : Value).cells (j - i)
     rw [Array.length_toList,this]
     rfl
    have hcl : ∀ ty,(Builtin.clear_ #[25] ty #[.slice (some ⟨g,i * 5,none⟩) (j - i) (cv - i)]).run Tryz.prog wr = .ok (.tuple #[]) (wr.setCells g (i * 5) (Builtin.zeroCells (.agg #[.string ⟨#[]⟩,.int .i64 0,.string ⟨#[]⟩,.string ⟨#[]⟩,.slice none 0 0] : Value).cells (j - i)).toList) := fun ty =>
     run_clear_k wr 25 35 ty _ Tryz.underlying25 (fun _ => by kernel_rfl) g (i * 5) (j - i) (cv - i) (by omega) (fun u hu => by
      simp only [Builtin.zeroCells,Array.toList_map,List.mem_map] at hu
      obtain ⟨y,_,e⟩ := hu
      rw [show (.agg #[.string ⟨#[]⟩,.int .i64 0,.string ⟨#[]⟩,.string ⟨#[]⟩,.slice none 0 0] : Value).cells = #[.string ⟨#[]⟩,.int .i64 0,.string ⟨#[]⟩,.string ⟨#[]⟩,.slice none 0 0] from rfl] at e
      obtain ⟨m,hm⟩ : ∃ m,y % (#[.string ⟨#[]⟩,.int .i64 0,.string ⟨#[]⟩,.string ⟨#[]⟩,.slice none 0 0] : Array Value).size = m := ⟨_,rfl⟩
      rw [hm] at e
      have hm5 : m < 5 := by rw [← hm]; exact Nat.mod_lt _ (by decide)
      rcases (by omega : m = 0 ∨ m = 1 ∨ m = 2 ∨ m = 3 ∨ m = 4) with rfl | rfl | rfl | rfl | rfl <;> (rw [← e]; rfl)) (fun y hy => by
      rw [hzl] at hy
      rw [Lib.cell_of_heap hcc,Array.getElem?_eq_getElem (by have := Nat.mul_le_mul_right 5 hcap; rw [hccs]; rw [Nat.sub_mul] at hy; have := Nat.mul_le_mul_right 5 hin; omega)]
      rfl) (fun y _ => by unfold World.frozen?; rw [hcc]; simp)
    obtain ⟨zs,hzs⟩ : ∃ zs,(Builtin.zeroCells (.agg #[.string ⟨#[]⟩,.int .i64 0,.string ⟨#[]⟩,.string ⟨#[]⟩,.slice none 0 0] : Value).cells (j - i)).toList = zs := ⟨_,rfl⟩
    rw [hzs] at hcl
    have hRf := hR.cut hin zs
    have hgf := gtrans hg (grownBy_setCells wr g (i * 5) zs)
    have hkl : (kept nms L).length = i := by rw [hK.out]; exact hQ.out.1
    have hOF : OwnF base (.slice (some ⟨g,0,none⟩) i cv) (kept nms L) (wr.setCells g (i * 5) zs) := by
     refine ⟨?_,fun f hf => ?_⟩
     ·rw [hkl]
      refine hRf.congr (fun x hx => ?_)
      rw [hK.out,hQ.out.2.1 x hx]
      rfl
     ·have k := (hO2 f ((List.mem_filter.1 hf).1)).sta (sta_grown hgf) ((hO2 f ((List.mem_filter.1 hf).1)).at_.mono fun b kb y hy => by injection hy with hy; rw [← hy]; exact kb.2.2 g rfl)
      exact ⟨k.ok,k.at_⟩
    have i1 : (i : Int) ≤ (j : Int) := by omega
    have i2 : (i : Int) < (j : Int) := by omega
    have i3 : (i : Int) ≤ (cv : Int) := by omega
    have i4 : (i : Int) < (cv : Int) := by omega
    have i5 : ¬ cv = i := by omega
    have i6 : (j : Int) ≤ (cv : Int) := by omega
    clear hQ hK hzl hzs hcc hccs hRf hg hR hO1 hO2 hkl st hNr hMr
    go_wp2_with fail
    go_ret
    exact ⟨⟨_,rfl,hOF⟩,hgf⟩
theorem kept_y (nms : List ByteArray) (L : List FamD) : (kept nms L).map FamD.y = (L.map FamD.y).filter (fun f => !(decide (f.nm ∈ nms))) := by
 unfold kept
 rw [List.filter_map]
 rfl
theorem minus_any (tn : ByteArray) (a : Option Addr) (c : Nat) (l : List FamD) (na : Option Addr) (nc : Nat) (nms : List ByteArray) (w : World) (hl : l.length ≤ 1000) (hA : FamsA a l w) (hs : ∀ f ∈ l,f.y.Sm) (hN : StrsA na nms w) (hn : nms.length ≤ 1000000) :
  Calls Tryz.prog 27 #[.agg #[.string tn,.slice a l.length c],.slice na nms.length nc] w fun e w' => (∃ v L,e = .returned (.agg #[.string tn,v]) ∧ L.map FamD.y = (l.map FamD.y).filter (fun f => !(decide (f.nm ∈ nms))) ∧ OwnF w.heap.size v L w') ∧ Ext w w' := by
 obtain ⟨W,hW⟩ : ∃ W,((w.alloc (.cells #[.string tn,.slice a l.length c] 27)).alloc (.cells #[.slice na nms.length nc] 56)).alloc (.cells #[.string ⟨#[]⟩,.slice none 0 0] 27) = W := ⟨_,rfl⟩
 have x1 : Ext w W := by rw [← hW]; exact (((Ext.refl w).alloc _).alloc _).alloc _
 have gB : BatIn w.heap.size tn (.slice a l.length c) W := by rw [← hW]; exact BatIn.ext (heap_at2a _ _ _) ((Ext.refl _).alloc _)
 have gN : NmsIn (w.heap.size + 1) (.slice na nms.length nc) W := by rw [← hW]; exact NmsIn.ext (heap_at2b _ _ _) ((Ext.refl _).alloc _)
 have gR : BatIn (w.heap.size + 1 + 1) ⟨#[]⟩ (.slice none 0 0) W := by
  rw [← hW]
  have := heap_last ((w.alloc (.cells #[.string tn,.slice a l.length c] 27)).alloc (.cells #[.slice na nms.length nc] 56)) (.cells #[.string ⟨#[]⟩,.slice none 0 0] 27)
  rw [heap_size_alloc,heap_size_alloc] at this
  exact this
 have hWz : w.heap.size + 3 ≤ W.heap.size := by rw [← hW]; simp
 replace hW := Lib.hid hW
 have OB := ownBatch_any tn a c l W hl (hA.ext x1) hs
 have hNb0 : ∀ x,0 < nms.length → na = some x → x.block < w.heap.size := fun x h0 hx => by
  obtain ⟨b,o,e,hb,_⟩ := hN h0
  rw [hx] at e
  injection e with e
  rw [e]; exact hb
 obtain ⟨B,hB⟩ : ∃ B,w.heap.size = B := ⟨_,rfl⟩
 rw [hB] at gB gN gR hWz ⊢
 have hwB : w.heap.size ≤ B := by omega
 have hwB2 : w.heap.size ≤ B + 1 + 1 := by omega
 obtain ⟨N,hNN⟩ : ∃ N,W.heap.size = N := ⟨_,rfl⟩
 rw [hNN] at OB hWz
 obtain ⟨c0,c1⟩ := gB.cells
 have hmf : ∀ (fn : Fn) (first cap : Array Value) (w : World),(Instr.makeFunc fn first cap).run Tryz.prog w = .ok (.func fn first cap) w := fun _ _ _ _ => rfl
 clear hA
 go_enter Tryz.func27,Tryz.ntmps27
 go_wp2_with fail
 try rw [hB]
 try rw [hW.out]
 (with_reducible refine OB.mono ?_)
 rintro e w1 ⟨⟨v,L1,rfl,hy,hO⟩,x2⟩
 clear OB c0 c1 hW
 obtain ⟨a',c',hv⟩ := hO.1.form
 subst hv
 replace gB := gB.ext x2
 replace gN := gN.ext x2
 replace gR := gR.ext x2
 obtain ⟨c0,c1⟩ := gB.cells
 have fr1 := fun o => gB.free o
 have gB2 := (gB.set0 tn).set1 (.slice a' L1.length c')
 have gR2 := (gR.setC B 0 (.string tn) (by omega)).setC B 1 (.slice a' L1.length c') (by omega)
 have gN2 := (gN.sta (sta_setC w1 B 0 (.string tn)) (by omega)).sta (sta_setC _ B 1 (.slice a' L1.length c')) (by omega)
 have hO2 := (hO.setC B 0 (.string tn) (by omega)).setC B 1 (.slice a' L1.length c') (by omega)
 have XF := ((x1.trans x2).setC B 0 (.string tn) hwB).setC B 1 (.slice a' L1.length c') hwB
 obtain ⟨W2,hW2⟩ : ∃ W2,(w1.setCell ⟨B,0,none⟩ (.string tn)).setCell ⟨B,1,none⟩ (.slice a' L1.length c') = W2 := ⟨_,rfl⟩
 rw [hW2] at gB2 gR2 gN2 hO2 XF
 have hl1 : L1.length ≤ 1000 := by have := congrArg List.length hy; simp at this; omega
 have DE := del_any N _ L1 W2 hO2 (B + 1) na nc nms gN2 (by omega) (hN.ext XF) hn (fun x h0 hx => by have := hNb0 x h0 hx; omega) hl1
 replace hy := Lib.hid hy
 replace hW2 := Lib.hid hW2
 clear gB gR gN hO x2 x1
 go_wp2_with fail
 try rw [hW2.out]
 (with_reducible refine DE.mono ?_)
 rintro e w3 ⟨⟨v2,rfl,hO3⟩,hg⟩
 clear DE
 have hgN : ∀ x,(Value.slice a' L1.length c').ownBlock = some x → N ≤ x := fun x hx => (hO2.1.lt x hx).1
 replace gB2 := gB2.grown hg (fun x hx => by have := hgN x hx; omega)
 replace gR2 := gR2.grown hg (fun x hx => by have := hgN x hx; omega)
 have X3 : Ext w w3 := grown_ext' XF hg (Nat.le_refl _) (fun x hx => by have := hgN x hx; omega)
 obtain ⟨a5,c5,hv5⟩ := hO3.1.form
 subst hv5
 have hky := kept_y nms L1
 rw [hy.out] at hky
 generalize kept nms L1 = LK at *
 obtain ⟨d0,d1⟩ := gB2.cells
 have fr2 := fun o => gB2.free o
 have gB3 := gB2.set1 (.slice a5 LK.length c5)
 have gR3 := gR2.setC B 1 (.slice a5 LK.length c5) (by omega)
 have hO4 := ((hO3.setC B 1 (.slice a5 LK.length c5) (by omega)).setC (B + 1 + 1) 0 (.string tn) (by omega)).setC (B + 1 + 1) 1 (.slice a5 LK.length c5) (by omega)
 have X5 := ((X3.setC B 1 (.slice a5 LK.length c5) hwB).setC (B + 1 + 1) 0 (.string tn) hwB2).setC (B + 1 + 1) 1 (.slice a5 LK.length c5) hwB2
 obtain ⟨e0,e1⟩ := gB3.cells
 obtain ⟨f0,f1⟩ := gR3.cells
 obtain ⟨f2,f3⟩ := gR2.cells
 have fr3 := fun o => gR3.free o
 have fr4 := fun o => gR2.free o
 replace hky := Lib.hid hky
 clear gB2 gR2 gB3 gR3 hO3 hO2 c0 c1 fr1 hN hs hNb0 gN2 hg XF X3
 go_wp2_with fail
 refine bodyPost_ret (v := .agg #[.string tn,.slice a5 LK.length c5]) ?_ rfl ⟨⟨_,LK,rfl,hky.out,hO4.mono (by omega)⟩,X5⟩
 simp [results,Tryz.results27,go_sem,d0,d1,e0,e1,f0,f1,f2,f3]
end Go.Proofs.YtjjnmefihdjglaaGreat
