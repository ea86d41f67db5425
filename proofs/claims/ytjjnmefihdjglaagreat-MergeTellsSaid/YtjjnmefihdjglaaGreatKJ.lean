import Derived.Test.YtjjnmefihdjglaaGreatKX
import Derived.Test.YtjjnmefihdjglaaGreatKI
import Derived.Test.YtjjnmefihdjglaaGreatKF
set_option maxRecDepth 100000
set_option maxHeartbeats 64000000
set_option linter.all false
namespace Go.Proofs.YtjjnmefihdjglaaGreat
open Go.RowKit
theorem tyLab : TyE 36 69 2 32 := TyE.mk' Tryz.underlying36 (by kernel_rfl)
theorem tyPt : TyE 33 40 9 88 := TyE.mk' Tryz.underlying33 (by kernel_rfl)
theorem tyFam : TyE 25 35 5 80 := TyE.mk' Tryz.underlying25 (by kernel_rfl)
def labC (x : ByteArray × ByteArray) : List Value := [.string x.1,.string x.2]
def lab0 : ByteArray × ByteArray := (ByteArray.empty,ByteArray.empty)
theorem clone_any (a : Option Addr) (c : Nat) (l : List (ByteArray × ByteArray)) (w : World) (hl : l.length ≤ 1000) (hA : LabA a l w) :
  Calls Tryz.prog 90 #[.slice a l.length c] w fun e w' => (∃ a' c',e = .returned (.slice a' l.length c') ∧ LabA a' l w' ∧ (∀ x,a' = some x → w.heap.size ≤ x.block ∧ x.block < w'.heap.size)) ∧ Ext w w' := by
 cases a with
 | none =>
   have h0 : l = [] := by
    cases l with
    | nil => rfl
    | cons x l => obtain ⟨b,o,h,_⟩ := hA (by simp); cases h
   subst h0
   have hq : ∀ w,(binOp .eql 36 (.slice none 0 c) (.slice none 0 0)).run Tryz.prog w = .ok (.bool true) w := fun w => Lib.run_eql_slice_nil w _ _ none 0 c 0 0 Tryz.underlying36
   go_enter Tryz.func90,Tryz.ntmps90
   go_wp2_with fail
   go_ret
   exact ⟨⟨none,0,rfl,LabA.nil _ _,fun x h => by cases h⟩,Ext.refl _⟩
 | some ad =>
   have hq : ∀ w,(binOp .eql 36 (.slice (some ad) l.length c) (.slice none 0 0)).run Tryz.prog w = .ok (.bool false) w := fun w => Lib.run_eql_slice_nil w _ _ (some ad) l.length c 0 0 Tryz.underlying36
   go_enter Tryz.func90,Tryz.ntmps90
   have x0 : Ext w (w.alloc (.cells #[] 69)) := (Ext.refl w).alloc _
   have ho : OwnR 2 69 labC w.heap.size (.slice (some ⟨w.heap.size,0,none⟩) 0 0) 0 (fun _ => lab0) (w.alloc (.cells #[] 69)) :=
    .inr ⟨w.heap.size,0,rfl,Nat.le_refl _,Nat.le_refl _,#[],heap_last _ _,rfl,fun i hi => absurd hi (by omega)⟩
   have hc : ∀ i,i < l.length → ∀ j,j < 2 → (w.alloc (.cells #[] 69)).cell? (ad.add (i * 2 + j)) = (labC (l.getD i lab0))[j]? := by
    intro i hi j hj
    obtain ⟨b,o,e,hb,hA2⟩ := (hA.ext x0) (by omega)
    injection e with e
    subst e
    obtain ⟨q0,q1⟩ := hA2 i hi
    rw [Addr.add_lit,show l.getD i lab0 = l[i] from by simp [hi]]
    match j,hj with
    | 0,_ => exact q0
    | 1,_ => rw [← Nat.add_assoc]; exact q1
   obtain ⟨W,hW⟩ : ∃ W,w.alloc (.cells #[] 69) = W := ⟨_,rfl⟩
   have hsz : w.heap.size < W.heap.size := by rw [← hW]; simp
   rw [hW] at x0 ho hc
   replace hW := Lib.hid hW
   go_wp2_with (at_builtin; (try rw [hW.out]); refine wpList_append_structs _ rfl _ _ rfl tyLab (fun _ => rfl) (fun x u hu => ?c1) (by decide) w.heap.size _ 0 (fun _ => lab0) rfl ho ?c2 ad l.length c (fun i => l.getD i lab0) rfl hc ?c3 ?c4 ?c5 ?_)
   case c1 => simp [labC] at hu; rcases hu with rfl | rfl <;> rfl
   case c2 => exact x0.size
   case c3 => omega
   case c4 => omega
   case c5 => exact .inl (show Value.slice (some ⟨w.heap.size,0,none⟩) 0 0 ≠ .slice none 0 0 from fun h => by cases h)
   intro v' w' h1 h2 h3
   go_wp2_with fail
   go_ret
   have h4 := h1.form
   obtain ⟨a',c',rfl⟩ := h4
   have hx : Ext w w' := grown_ext' x0 h2 (Nat.le_refl _) (fun k hk => by cases hk; exact Nat.le_refl _)
   refine ⟨⟨a',c',rfl,fun h0 => ?_,fun x hx => ?_⟩,hx⟩
   ·obtain ⟨g,cap,e,hg,hr⟩ := h1.row h0
    injection e with e _ _
    subst e
    refine ⟨g,0,rfl,hr.lt,fun i hi => ?_⟩
    have e0 := hr.cell i 0 (.string l[i].1) hi (by decide) (by simp [joinF,labC,hi])
    have e1 := hr.cell i 1 (.string l[i].2) hi (by decide) (by simp [joinF,labC,hi])
    rw [Nat.zero_add]
    exact ⟨e0,e1⟩
   ·subst hx
    exact h1.lt _ rfl
theorem PtD.Ok.grown {p : PtD} {w w' : World} {row : Option Nat} (h : p.Ok w) (g : w.grownBy w' row) (hr : ∀ x,p.a = some x → ∀ k,row = some k → x.block ≠ k) : p.Ok w' := by
 refine ⟨h.1,fun h0 => ?_,h.2.2⟩
 obtain ⟨b,o,e,hb,hl⟩ := h.2.1 h0
 have hn := hr _ e
 exact ⟨b,o,e,Nat.lt_of_lt_of_le hb g.size,fun i hi => ⟨(grown_cell g (p := ⟨b,o + i * 2,none⟩) hb hn).trans (hl i hi).1,(grown_cell g (p := ⟨b,o + i * 2 + 1,none⟩) hb hn).trans (hl i hi).2⟩⟩
theorem PtIn.free {b : Nat} {v : Value} {r : Int} {f : Bool} {M S m s : Int} {t : Bool} {T : Int} {w : World} (h : PtIn b v r f M S m s t T w) (o : Nat) : w.frozen? ⟨b,o,none⟩ = false := by
 unfold PtIn at h
 unfold World.frozen?
 rw [h]; simp
theorem LabA.setC {a : Option Addr} {l : List (ByteArray × ByteArray)} {W : World} (h : LabA a l W) (b o : Nat) (v : Value) (hb : ∀ x,a = some x → b ≠ x.block) : LabA a l (W.setCell ⟨b,o,none⟩ v) := fun h0 => by
 obtain ⟨b1,o1,e,h1,h2⟩ := h h0
 have hn := hb _ e
 exact ⟨b1,o1,e,by rw [World.size_setCell]; exact h1,fun i hi => ⟨(World.cell?_setCell_far _ ⟨b,o,none⟩ ⟨b1,o1 + i * 2,none⟩ v hn).trans (h2 i hi).1,(World.cell?_setCell_far _ ⟨b,o,none⟩ ⟨b1,o1 + i * 2 + 1,none⟩ v hn).trans (h2 i hi).2⟩⟩
theorem Ext.setC {w W : World} (h : Ext w W) (b o : Nat) (v : Value) (hb : w.heap.size ≤ b) : Ext w (W.setCell ⟨b,o,none⟩ v) :=
 ((ExtB.refl b W).setCell o v).toExt h hb
theorem ownPoint_any (p : PtD) (w : World) (hp : p.Ok w) (hl : p.l.length ≤ 1000) :
  Calls Tryz.prog 58 #[p.v] w fun e w' => (∃ q : PtD,e = .returned q.v ∧ q.y = p.y ∧ q.Ok w' ∧ (∀ x,q.a = some x → w.heap.size ≤ x.block ∧ x.block < w'.heap.size)) ∧ Ext w w' := by
 obtain ⟨a,c,l,r,f,M,S,m,s,t,T⟩ := p
 obtain ⟨k1,k2,k3⟩ := hp
 dsimp only at k1 k2 k3 hl
 unfold PtD.v ptV
 dsimp only
 have CL := fun W (x : Ext w W) => clone_any a c l W hl (k2.ext x)
 obtain ⟨V,hV⟩ : ∃ V,Value.slice a l.length c = V := ⟨_,rfl⟩
 rw [hV] at CL ⊢
 obtain ⟨W,hW⟩ : ∃ W,(w.alloc (.cells #[V,.int .i64 r,.bool f,.int .i64 M,.int .i64 S,.int .i64 m,.int .i64 s,.bool t,.int .i64 T] 40)).alloc (.cells #[.slice none 0 0,.int .i64 0,.bool false,.int .i64 0,.int .i64 0,.int .i64 0,.int .i64 0,.bool false,.int .i64 0] 40) = W := ⟨_,rfl⟩
 have x1 : Ext w W := by rw [← hW]; exact ((Ext.refl w).alloc _).alloc _
 have h1 : PtIn w.heap.size V r f M S m s t T W := by rw [← hW]; exact heap_at2a _ _ _
 have h2 : PtIn (w.heap.size + 1) (.slice none 0 0) 0 false 0 0 0 0 false 0 W := by rw [← hW]; exact heap_at2b _ _ _
 have hWz : w.heap.size + 2 ≤ W.heap.size := by rw [← hW]; simp
 replace hW := Lib.hid hW
 go_enter Tryz.func58,Tryz.ntmps58
 go_wp2_with fail
 rw [hW.out]
 (with_reducible refine (CL _ x1).mono ?_)
 rintro e w2 ⟨⟨a',c',rfl,hA',hB'⟩,x2⟩
 replace h1 := h1.ext x2
 replace h2 := h2.ext x2
 have x3 := x1.trans x2
 obtain ⟨c0,c1,c2,c3,c4,c5,c6,c7,c8⟩ := h1.cells
 obtain ⟨d0,d1,d2,d3,d4,d5,d6,d7,d8⟩ := h2.cells
 have fr1 := fun o => h1.free o
 have fr2 := fun o => h2.free o
 have hbz : w.heap.size ≤ W.heap.size := x1.size
 clear h1 h2
 go_wp2_with fail
 have hz1 : w.heap.size ≤ w.heap.size + 1 := Nat.le_succ _
 have XF := ((((((((((x3.setC w.heap.size 0 (.slice a' l.length c') (Nat.le_refl _)).setC (w.heap.size + 1) 0 (.slice a' l.length c') hz1).setC (w.heap.size + 1) 1 (.int .i64 r) hz1).setC (w.heap.size + 1) 2 (.bool f) hz1).setC (w.heap.size + 1) 3 (.int .i64 M) hz1).setC (w.heap.size + 1) 4 (.int .i64 S) hz1).setC (w.heap.size + 1) 5 (.int .i64 m) hz1).setC (w.heap.size + 1) 6 (.int .i64 s) hz1).setC (w.heap.size + 1) 7 (.bool t) hz1).setC (w.heap.size + 1) 8 (.int .i64 T) hz1)
 refine bodyPost_ret (v := .agg #[.slice a' l.length c',.int .i64 r,.bool f,.int .i64 M,.int .i64 S,.int .i64 m,.int .i64 s,.bool t,.int .i64 T]) ?_ rfl ⟨⟨⟨a',c',l,r,f,M,S,m,s,t,T⟩,rfl,rfl,⟨k1,?_,k3⟩,?_⟩,XF⟩
 ·simp [results,Tryz.results58,go_sem,d0,d1,d2,d3,d4,d5,d6,d7,d8]
 ·have n1 : ∀ x,a' = some x → w.heap.size ≠ x.block := fun x hx => by have := hB' x hx; omega
  have n2 : ∀ x,a' = some x → w.heap.size + 1 ≠ x.block := fun x hx => by have := hB' x hx; omega
  exact (((((((((hA'.setC _ 0 _ n1).setC _ 0 _ n2).setC _ 1 _ n2).setC _ 2 _ n2).setC _ 3 _ n2).setC _ 4 _ n2).setC _ 5 _ n2).setC _ 6 _ n2).setC _ 7 _ n2).setC _ 8 _ n2
 ·intro x hx
  have := hB' x hx
  refine ⟨by omega,?_⟩
  simp only [World.size_setCell]
  exact this.2
def PtD.zero : PtD := ⟨none,0,[],0,false,0,0,0,0,false,0⟩
structure PtAt (base : Nat) (v : Value) (W : World) (p : PtD) : Prop where
 ok : p.Ok W
 lo : ∀ x,p.a = some x → base ≤ x.block
 hi : ∀ x,p.a = some x → x.block < W.heap.size
 off : ∀ x,p.a = some x → ∀ g,v.ownBlock = some g → x.block ≠ g
theorem PtAt.ext {base : Nat} {v : Value} {W W' : World} {p : PtD} (h : PtAt base v W p) (x : Ext W W') : PtAt base v W' p := ⟨h.ok.ext x,h.lo,fun a ha => Nat.lt_of_lt_of_le (h.hi a ha) x.size,h.off⟩
def OwnP (base : Nat) (v : Value) (L : List PtD) (W : World) : Prop :=
 OwnR 9 40 PtD.cs base v L.length (fun i => L[i]?.getD PtD.zero) W ∧ ∀ p ∈ L,PtAt base v W p
theorem OwnP.ext {base : Nat} {v : Value} {L : List PtD} {W W' : World} (h : OwnP base v L W) (x : Ext W W') : OwnP base v L W' :=
 ⟨h.1.ext x,fun p hp => (h.2 p hp).ext x⟩
theorem OwnP.mono {base base' : Nat} {v : Value} {L : List PtD} {W : World} (h : OwnP base v L W) (hb : base' ≤ base) : OwnP base' v L W := by
 refine ⟨?_,fun p hp => ⟨(h.2 p hp).ok,fun x hx => Nat.le_trans hb ((h.2 p hp).lo x hx),(h.2 p hp).hi,(h.2 p hp).off⟩⟩
 rcases h.1 with h | ⟨g,cap,e1,h1,h2⟩
 ·exact .inl h
 ·exact .inr ⟨g,cap,e1,Nat.le_trans hb h1,h2⟩
theorem OwnP.setC {base : Nat} {v : Value} {L : List PtD} {W : World} (h : OwnP base v L W) (b o : Nat) (u : Value) (hb : b < base) : OwnP base v L (W.setCell ⟨b,o,none⟩ u) := by
 refine ⟨?_,fun p hp => ⟨⟨(h.2 p hp).ok.1,(h.2 p hp).ok.2.1.setC b o u (fun x hx => by have := (h.2 p hp).lo x hx; omega),(h.2 p hp).ok.2.2⟩,(h.2 p hp).lo,fun x hx => by rw [World.size_setCell]; exact (h.2 p hp).hi x hx,(h.2 p hp).off⟩⟩
 rcases h.1 with h | ⟨g,cap,e1,h1,h2,c,h3,h4⟩
 ·exact .inl h
 ·refine .inr ⟨g,cap,e1,h1,h2,c,?_,h4⟩
  unfold World.setCell
  simp only [Array.getElem?_modify]
  rw [if_neg (by omega)]
  exact h3
theorem OwnP.pts {base : Nat} {v : Value} {L : List PtD} {W : World} (h : OwnP base v L W) : ∃ a c,v = .slice a L.length c ∧ PtsA a L W := by
 obtain ⟨a,c,rfl⟩ := h.1.form
 refine ⟨a,c,rfl,fun h0 => ?_,fun p hp => (h.2 p hp).ok⟩
 obtain ⟨g,cap,e,hg,hr⟩ := h.1.row h0
 injection e with e _ _
 subst e
 refine ⟨g,0,rfl,hr.lt,fun i hi => ?_⟩
 have e : L[i]?.getD PtD.zero = L[i] := by simp [hi]
 have C := fun j v hj hv => hr.cell i j v hi hj (by rw [e]; exact hv)
 rw [Nat.zero_add]
 exact ⟨C 0 _ (by decide) rfl,C 1 _ (by decide) rfl,C 2 _ (by decide) rfl,C 3 _ (by decide) rfl,C 4 _ (by decide) rfl,C 5 _ (by decide) rfl,C 6 _ (by decide) rfl,C 7 _ (by decide) rfl,C 8 _ (by decide) rfl⟩
theorem OwnP.push {base : Nat} {v v' : Value} {L : List PtD} {q : PtD} {w3 w4 : World} (h : OwnP base v L w3) (hq : PtAt base v w3 q)
  (h1 : OwnR 9 40 PtD.cs base v' (L.length + 1) (joinF L.length (fun i => L[i]?.getD PtD.zero) (fun _ => q)) w4) (h2 : w3.grownBy w4 v.ownBlock) (h3 : v'.ownBlock = v.ownBlock ∨ v'.ownBlock = some w3.heap.size) : OwnP base v' (L ++ [q]) w4 := by
 refine ⟨?_,fun p hp => ?_⟩
 ·rw [List.length_append,List.length_singleton]
  refine h1.congr fun i hi => ?_
  unfold joinF
  by_cases e : i < L.length
  ·rw [if_pos e]; simp [e,List.getElem?_append_left]
  ·rw [if_neg e]
   obtain rfl : i = L.length := by omega
   simp
 ·have key : PtAt base v w3 p := by
   rcases List.mem_append.1 hp with hp | hp
   ·exact h.2 p hp
   ·rw [List.mem_singleton] at hp
    subst hp
    exact hq
  refine ⟨key.ok.grown h2 (fun x hx g hg => key.off x hx g hg),key.lo,fun x hx => Nat.lt_of_lt_of_le (key.hi x hx) h2.size,fun x hx g hg => ?_⟩
  rcases h3 with h3 | h3
  ·rw [h3] at hg; exact key.off x hx g hg
  ·rw [h3] at hg
   injection hg with hg
   have := key.hi x hx
   omega
theorem ptC_one (p : PtD) : ∀ u ∈ PtD.cs p,u.oneCell' = true := by
 intro u hu
 simp [PtD.cs] at hu
 rcases hu with rfl | rfl | rfl | rfl | rfl | rfl | rfl | rfl | rfl <;> rfl
theorem ownPoints_any (a : Option Addr) (c : Nat) (l : List PtD) (w : World) (hl : l.length ≤ 1000) (hL : ∀ p ∈ l,p.l.length ≤ 1000) (hA : PtsA a l w) :
  Calls Tryz.prog 82 #[.slice a l.length c] w fun e w' => (∃ v L,e = .returned v ∧ L.map PtD.y = l.map PtD.y ∧ OwnP w.heap.size v L w') ∧ Ext w w' := by
 go_enter Tryz.func82,Tryz.ntmps82
 go_wp2_with fail
 go_loopw [3,8] (fun o i wr => ∃ (k : Nat) (L : List PtD),i = .int .i64 k ∧ k ≤ l.length ∧ Hid (L.map PtD.y = (l.take k).map PtD.y) ∧ OwnP w.heap.size o L wr ∧ Ext w wr) (fun _ i _ => l.length - (intOf i).toNat)
 case atStart => exact ⟨0,[],rfl,Nat.zero_le _,Lib.hid rfl,⟨OwnR.nil _ _ _,fun p hp => by cases hp⟩,Ext.refl _⟩
 case round =>
  obtain ⟨k,L,rfl,hk,hQ,hO,xr⟩ := hrel
  by_cases hlt : k < l.length
  ·obtain ⟨b,o,rfl,hb,hP⟩ := hA.1 (by omega)
   have ok := (hA.2 _ (List.getElem_mem hlt)).ext xr
   have ll := hL _ (List.getElem_mem hlt)
   obtain ⟨p0,p1,p2,p3,p4,p5,p6,p7,p8⟩ := hP k hlt
   obtain ⟨p,hp⟩ : ∃ p,l[k] = p := ⟨_,rfl⟩
   rw [hp] at p0 p1 p2 p3 p4 p5 p6 p7 p8 ok ll
   replace p0 := (Ext.cell xr hb).trans p0
   replace p1 := (Ext.cell xr hb).trans p1
   replace p2 := (Ext.cell xr hb).trans p2
   replace p3 := (Ext.cell xr hb).trans p3
   replace p4 := (Ext.cell xr hb).trans p4
   replace p5 := (Ext.cell xr hb).trans p5
   replace p6 := (Ext.cell xr hb).trans p6
   replace p7 := (Ext.cell xr hb).trans p7
   replace p8 := (Ext.cell xr hb).trans p8
   have PT := fun W (x : Ext wr W) => ownPoint_any p W (ok.ext x) ll
   unfold PtD.v ptV at PT
   have hL2 : L.length = k := by have := congrArg List.length hQ.out; simpa [Nat.min_eq_left hk] using this
   have hQ2 : ∀ q : PtD,q.y = p.y → Hid ((L ++ [q]).map PtD.y = (l.take (k + 1)).map PtD.y) := fun q hy => Lib.hid (by
    rw [List.map_append,hQ.out,List.take_add_one,List.map_append,List.getElem?_eq_getElem hlt,hp]
    simp [hy])
   replace hL2 := Lib.hid hL2
   clear hQ hp hP hA
   go_wp2_with fail
   have x1 := (Ext.refl wr).alloc (.cells #[.slice p.a p.l.length p.c,.int .i64 p.r,.bool p.f,.int .i64 p.M,.int .i64 p.S,.int .i64 p.m,.int .i64 p.s,.bool p.t,.int .i64 p.T] 40)
   (with_reducible refine (PT _ x1).mono ?_)
   rintro e w2 ⟨⟨q,rfl,hy,hq,hqa⟩,x2⟩
   have x3 := (x1.trans x2).alloc (.cells #[.slice q.a q.l.length q.c,.int .i64 q.r,.bool q.f,.int .i64 q.M,.int .i64 q.S,.int .i64 q.m,.int .i64 q.s,.bool q.t,.int .i64 q.T] 40)
   have xa := (Ext.refl w2).alloc (.cells #[.slice q.a q.l.length q.c,.int .i64 q.r,.bool q.f,.int .i64 q.M,.int .i64 q.S,.int .i64 q.m,.int .i64 q.s,.bool q.t,.int .i64 q.T] 40)
   have hcell : PtIn w2.heap.size (.slice q.a q.l.length q.c) q.r q.f q.M q.S q.m q.s q.t q.T (w2.alloc (.cells #[.slice q.a q.l.length q.c,.int .i64 q.r,.bool q.f,.int .i64 q.M,.int .i64 q.S,.int .i64 q.m,.int .i64 q.s,.bool q.t,.int .i64 q.T] 40)) := heap_last _ _
   have hO3 := hO.ext x3
   have hlt3 := hO.1.lt
   obtain ⟨w3,hw3⟩ : ∃ w3,w2.alloc (.cells #[.slice q.a q.l.length q.c,.int .i64 q.r,.bool q.f,.int .i64 q.M,.int .i64 q.S,.int .i64 q.m,.int .i64 q.s,.bool q.t,.int .i64 q.T] 40) = w3 := ⟨_,rfl⟩
   rw [hw3] at x3 xa hcell hO3
   have hs3 : w2.heap.size < w3.heap.size := by rw [← hw3]; simp
   have hs2 : wr.heap.size < w2.heap.size := by have := x2.size; rw [heap_size_alloc] at this; omega
   replace hw3 := Lib.hid hw3
   have hc : ∀ i,i < 1 → ∀ j,j < 9 → w3.cell? ((⟨w2.heap.size,0,none⟩ : Addr).add (i * 9 + j)) = (PtD.cs q)[j]? := by
    intro i hi j hj
    obtain rfl : i = 0 := by omega
    rw [Addr.add_lit,Lib.cell_of_heap hcell]
    match j,hj with
    | 0,_ => rfl
    | 1,_ => rfl
    | 2,_ => rfl
    | 3,_ => rfl
    | 4,_ => rfl
    | 5,_ => rfl
    | 6,_ => rfl
    | 7,_ => rfl
    | 8,_ => rfl
   go_wp2_with (at_builtin; (try rw [hw3.out]); refine wpList_append_structs w3 rfl _ _ rfl tyPt (fun _ => rfl) ptC_one (by decide) w.heap.size _ L.length (fun i => L[i]?.getD PtD.zero) rfl hO3.1 ?c2 ⟨w2.heap.size,0,none⟩ 1 1 (fun _ => q) rfl hc ?c3 ?c4 (.inr (by decide)) ?_)
   case c2 => exact Nat.le_trans xr.size x3.size
   case c3 => have := hL2.out; omega
   case c4 => have := hL2.out; omega
   intro v' w4 h1 h2 h3
   have hb3 : PtAt w.heap.size _ w3 q := ⟨hq.ext xa,fun x hx => by have := (hqa x hx).1; have := xr.size; rw [heap_size_alloc] at *; omega,fun x hx => by have := (hqa x hx).2; omega,fun x hx g hg => by have := (hqa x hx).1; rw [heap_size_alloc] at this; have := (hlt3 g hg).2; omega⟩
   have hO4 := hO3.push hb3 h1 h2 h3
   have x4 : Ext w w4 := grown_ext' (xr.trans x3) h2 (Nat.le_refl _) (fun g hg => (hlt3 g hg).1)
   have hQ3 := hQ2 q hy
   clear h1 h2 h3 hO3 hO hQ2 hc hcell
   go_wp2_with fail
   go_roundw
   case rel => exact ⟨k + 1,_,rfl,hlt,hQ3,hO4,x4⟩
   case measure => simp only [intOf]; omega
  ·obtain rfl : k = l.length := by omega
   have hQ2 := hQ.out
   rw [List.take_length] at hQ2
   replace hQ2 := Lib.hid hQ2
   clear hQ
   go_wp2_with fail
   go_ret
   exact ⟨⟨_,L,rfl,hQ2.out,hO⟩,xr⟩
theorem PtsA.src {ad : Addr} {l : List PtD} {w : World} (h : PtsA (some ad) l w) : ∀ i,i < l.length → ∀ j,j < 9 → w.cell? (ad.add (i * 9 + j)) = (PtD.cs (l[i]?.getD PtD.zero))[j]? := by
 intro i hi j hj
 obtain ⟨b,o,e,hb,hL⟩ := h.1 (by omega)
 injection e with e
 subst e
 have q := hL i hi
 rw [Addr.add_lit,show l[i]?.getD PtD.zero = l[i] from by rw [List.getElem?_eq_getElem hi]; rfl]
 obtain ⟨q0,q1,q2,q3,q4,q5,q6,q7,q8⟩ := q
 match j,hj with
 | 0,_ => exact q0
 | 1,_ => exact q1
 | 2,_ => exact q2
 | 3,_ => exact q3
 | 4,_ => exact q4
 | 5,_ => exact q5
 | 6,_ => exact q6
 | 7,_ => exact q7
 | 8,_ => exact q8
theorem PtsA.one {g : Nat} {p : PtD} {w : World} (h : w.heap[g]? = some (.cells #[.slice p.a p.l.length p.c,.int .i64 p.r,.bool p.f,.int .i64 p.M,.int .i64 p.S,.int .i64 p.m,.int .i64 p.s,.bool p.t,.int .i64 p.T] 40 (0,0))) (ok : p.Ok w) : PtsA (some ⟨g,0,none⟩) [p] w := by
 refine ⟨fun _ => ⟨g,0,rfl,(Array.getElem?_eq_some_iff.1 h).1,fun i hi => ?_⟩,fun q hq => by rw [List.mem_singleton] at hq; subst hq; exact ok⟩
 simp only [Lib.cell_of_heap h]
 match i,hi with
 | 0,_ => exact ⟨rfl,rfl,rfl,rfl,rfl,rfl,rfl,rfl,rfl⟩
theorem OwnR.ptsA {base n : Nat} {v : Value} {L : List PtD} {W : World} (h : OwnR 9 40 PtD.cs base v n (fun i => L[i]?.getD PtD.zero) W) (hn : n = L.length) (hp : ∀ p ∈ L,p.Ok W) : ∃ a c,v = .slice a L.length c ∧ PtsA a L W := by
 subst hn
 obtain ⟨a,c,rfl⟩ := h.form
 refine ⟨a,c,rfl,fun h0 => ?_,hp⟩
 obtain ⟨g,cap,e,hg,hr⟩ := h.row h0
 injection e with e _ _
 subst e
 refine ⟨g,0,rfl,hr.lt,fun i hi => ?_⟩
 have e : L[i]?.getD PtD.zero = L[i] := by simp [hi]
 have C := fun j v hj hv => hr.cell i j v hi hj (by rw [e]; exact hv)
 rw [Nat.zero_add]
 exact ⟨C 0 _ (by decide) rfl,C 1 _ (by decide) rfl,C 2 _ (by decide) rfl,C 3 _ (by decide) rfl,C 4 _ (by decide) rfl,C 5 _ (by decide) rfl,C 6 _ (by decide) rfl,C 7 _ (by decide) rfl,C 8 _ (by decide) rfl⟩
section
variable {E : Type} {K : Nat} {T : TypeId} {cs : E → List Value}
theorem RowE.keep {g n : Nat} {d : Nat → E} {w w' : World} (h : RowE K T cs g n d w) (e : w'.heap[g]? = w.heap[g]?) : RowE K T cs g n d w' := by
 obtain ⟨c,h1,h2⟩ := h
 exact ⟨c,e.trans h1,h2⟩
theorem OwnR.keep {base n : Nat} {v : Value} {d : Nat → E} {w w' : World} (h : OwnR K T cs base v n d w) (e : ∀ g,v.ownBlock = some g → w'.heap[g]? = w.heap[g]?) : OwnR K T cs base v n d w' := by
 rcases h with h | ⟨g,cap,e1,h1,h2,c,h3,h4⟩
 ·exact .inl h
 ·exact .inr ⟨g,cap,e1,h1,h2,c,(e g (by rw [e1]; rfl)).trans h3,h4⟩
end
end Go.Proofs.YtjjnmefihdjglaaGreat
namespace Go.Proofs.YtjjnmefihdjglaaGreat
open Go.RowKit
def FamIn (b : Nat) (nm : ByteArray) (k : Int) (un he : ByteArray) (pv : Value) (w : World) : Prop := w.heap[b]? = some (.cells #[.string nm,.int .i64 k,.string un,.string he,pv] 35 (0,0))
theorem FamIn.ext {b : Nat} {nm : ByteArray} {k : Int} {un he : ByteArray} {pv : Value} {w w' : World} (h : FamIn b nm k un he pv w) (x : Ext w w') : FamIn b nm k un he pv w' := (x.heap (Array.getElem?_eq_some_iff.1 h).1).trans h
theorem FamIn.cells {b : Nat} {nm : ByteArray} {k : Int} {un he : ByteArray} {pv : Value} {w : World} (h : FamIn b nm k un he pv w) :
  w.cell? ⟨b,0,none⟩ = some (.string nm) ∧ w.cell? ⟨b,1,none⟩ = some (.int .i64 k) ∧ w.cell? ⟨b,2,none⟩ = some (.string un) ∧ w.cell? ⟨b,3,none⟩ = some (.string he) ∧ w.cell? ⟨b,4,none⟩ = some pv := by
 refine ⟨?_,?_,?_,?_,?_⟩ <;> (rw [Lib.cell_of_heap h]; rfl)
def PtD.good (k : Int) (p : PtD) : Bool := goodPt k p.l p.r p.f p.M p.S p.m p.s p.t p.T
theorem wrong_any (b : Nat) (nm : ByteArray) (k : Int) (un he : ByteArray) (pv : Value) (p : PtD) (w : World) (h : FamIn b nm k un he pv w) (hp : p.Ok w) :
  Calls Tryz.prog 78 #[p.v,.pointer (some ⟨b,0,none⟩)] w fun e w' => e = .returned (.bool (!(p.good k))) ∧ Ext w w' := by
 obtain ⟨c0,c1,c2,c3,c4⟩ := h.cells
 have hb : b < w.heap.size := (Array.getElem?_eq_some_iff.1 h).1
 have G := fun W (x : Ext w W) => ptGood_any k p.a p.c p.l p.r p.f p.M p.S p.m p.s p.t p.T W hp.1 (hp.2.1.ext x) hp.2.2.1 hp.2.2.2.1.1 hp.2.2.2.1.2 hp.2.2.2.2.1 hp.2.2.2.2.2
 unfold PtD.good PtD.v
 generalize goodPt k p.l p.r p.f p.M p.S p.m p.s p.t p.T = g at *
 unfold ptV at *
 have hx : Ext w (w.alloc (.cells #[.slice p.a p.l.length p.c,.int .i64 p.r,.bool p.f,.int .i64 p.M,.int .i64 p.S,.int .i64 p.m,.int .i64 p.s,.bool p.t,.int .i64 p.T] 40)) := (Ext.refl _).alloc _
 clear h hp
 go_enter Tryz.func78,Tryz.ntmps78
 go_wp2_with fail
 (with_reducible refine (G _ hx).mono ?_)
 rintro e w1 ⟨rfl,x1⟩
 go_wp2_with fail
 go_ret
 exact ⟨rfl,hx.trans x1⟩
def badAt (k : Int) : Nat → List PtD → Int
 | _,[] => -1
 | i,p :: l => if p.good k then badAt k (i + 1) l else i
theorem badAt_neg (k : Int) : ∀ (l : List PtD) (i : Nat),decide (badAt k i l ≥ 0) = !(l.all (fun p => p.good k))
 | [],i => by simp [badAt]
 | p :: l,i => by
   unfold badAt
   cases h : p.good k
   ·simp [h]
   ·simp only [if_true,List.all_cons,h,Bool.true_and]
    exact badAt_neg k l (i + 1)
theorem indexBad_any (b : Nat) (nm : ByteArray) (k : Int) (un he : ByteArray) (pv : Value) (a : Option Addr) (c : Nat) (l : List PtD) (w : World) (h : FamIn b nm k un he pv w) (hl : (l.length : Int) ≤ 9223372036854775807) (hA : PtsA a l w) :
  Calls Tryz.prog 89 #[.slice a l.length c,.func (.func 78) #[] #[.pointer (some ⟨b,0,none⟩)]] w fun e w' => e = .returned (.int .i64 (badAt k 0 l)) ∧ Ext w w' := by
 obtain ⟨R,hR⟩ : ∃ R,badAt k 0 l = R := ⟨_,rfl⟩
 rw [hR]
 go_enter Tryz.func89,Tryz.ntmps89
 go_wp2_with fail
 go_loopw [8] (fun i wr => ∃ j : Nat,i = .int .i64 j ∧ j ≤ l.length ∧ Hid (badAt k j (l.drop j) = R) ∧ Ext w wr) (fun i _ => l.length - (intOf i).toNat)
 case atStart => exact ⟨0,rfl,Nat.zero_le _,Lib.hid hR,Ext.refl _⟩
 case round =>
  obtain ⟨j,rfl,hk,hg,xr⟩ := hrel
  clear hR
  by_cases hlt : j < l.length
  ·have hd := hg.out
   rw [List.drop_eq_getElem_cons hlt] at hd
   unfold badAt at hd
   obtain ⟨b1,o1,rfl,hb1,hL⟩ := hA.1 (by omega)
   have ok := (hA.2 _ (List.getElem_mem hlt)).ext xr
   obtain ⟨p0,p1,p2,p3,p4,p5,p6,p7,p8⟩ := hL j hlt
   generalize l[j] = p at *
   have C := wrong_any b nm k un he pv p wr (h.ext xr) ok
   obtain ⟨g,hg2⟩ : ∃ g,p.good k = g := ⟨_,rfl⟩
   rw [hg2] at C hd
   unfold PtD.v ptV at C
   replace p0 := (Ext.cell xr hb1).trans p0
   replace p1 := (Ext.cell xr hb1).trans p1
   replace p2 := (Ext.cell xr hb1).trans p2
   replace p3 := (Ext.cell xr hb1).trans p3
   replace p4 := (Ext.cell xr hb1).trans p4
   replace p5 := (Ext.cell xr hb1).trans p5
   replace p6 := (Ext.cell xr hb1).trans p6
   replace p7 := (Ext.cell xr hb1).trans p7
   replace p8 := (Ext.cell xr hb1).trans p8
   clear hL ok hA hg hg2
   cases g
   ·rw [if_neg (by decide)] at hd
    rw [Bool.not_false] at C
    replace hd := Lib.hid hd
    go_wp2_with fail
    (with_reducible refine C.mono ?_)
    rintro e w1 ⟨rfl,x1⟩
    clear p0 p1 p2 p3 p4 p5 p6 p7 p8
    go_wp2_with fail
    go_ret
    exact ⟨retI hd.out,xr.trans x1⟩
   ·rw [if_pos rfl] at hd
    rw [Bool.not_true] at C
    replace hd := Lib.hid hd
    go_wp2_with fail
    (with_reducible refine C.mono ?_)
    rintro e w1 ⟨rfl,x1⟩
    clear p0 p1 p2 p3 p4 p5 p6 p7 p8
    go_wp2_with fail
    go_roundw
    case rel => exact ⟨j + 1,rfl,hlt,hd,xr.trans x1⟩
    case measure => simp only [intOf]; omega
  ·have hd := hg.out
   rw [show l.drop j = [] from List.drop_eq_nil_of_le (by omega)] at hd
   replace hd : Hid ((-1 : Int) = R) := Lib.hid hd
   have hk3 : l.length ≤ j := by omega
   clear hk hg hA hlt
   go_wp2_with fail
   go_ret
   exact ⟨retI hd.out,xr⟩
theorem anyBad_any (b : Nat) (nm : ByteArray) (k : Int) (un he : ByteArray) (pv : Value) (a : Option Addr) (c : Nat) (l : List PtD) (w : World) (h : FamIn b nm k un he pv w) (hl : (l.length : Int) ≤ 9223372036854775807) (hA : PtsA a l w) :
  Calls Tryz.prog 57 #[.slice a l.length c,.func (.func 78) #[] #[.pointer (some ⟨b,0,none⟩)]] w fun e w' => e = .returned (.bool (!(l.all (fun p => p.good k)))) ∧ Ext w w' := by
 have C := fun W (x : Ext w W) => indexBad_any b nm k un he pv a c l W (h.ext x) hl (hA.ext x)
 rw [← badAt_neg k l 0]
 generalize badAt k 0 l = i at *
 clear h hA
 go_enter Tryz.func57,Tryz.ntmps57
 go_wp2_with fail
 (with_reducible refine (C _ (Ext.refl _)).mono ?_)
 rintro e w1 ⟨rfl,x1⟩
 go_wp2_with fail
 go_ret
 exact ⟨rfl,x1⟩
def goodFam (nm : ByteArray) (k : Int) (un he : ByteArray) (l : List PtD) : Bool :=
 (nameB nm && (!(decide (k < 0 ∨ 4 < k)) && (valueB un && valueB he))) && (l.all (fun p => p.good k) && risesK (l.map PtD.k))
theorem famGood_any (nm : ByteArray) (k : Int) (un he : ByteArray) (a : Option Addr) (c : Nat) (l : List PtD) (w : World) (hl : (l.length : Int) ≤ 9223372036854775807) (hA : PtsA a l w) (hn : nm.size ≤ 9223372036854775807) (hu : un.size ≤ 9223372036854775807) (hh : he.size ≤ 9223372036854775807) :
  Calls Tryz.prog 46 #[.agg #[.string nm,.int .i64 k,.string un,.string he,.slice a l.length c]] w fun e w' => e = .returned (.bool (goodFam nm k un he l)) ∧ Ext w w' := by
 have N := fun W => Name_any nm W hn
 have U := fun W => Value_any un W hu
 have H := fun W => Value_any he W hh
 have TY := fun W => Typed_any k W
 have we := wordEmpty k
 obtain ⟨R,hR⟩ : ∃ R,goodFam nm k un he l = R := ⟨_,rfl⟩
 rw [hR]
 unfold goodFam at hR
 generalize decide (k < 0 ∨ 4 < k) = bk at *
 generalize nameB nm = b1 at *
 generalize valueB un = b2 at *
 generalize valueB he = b3 at *
 generalize wordOf k = wk at *
 have h1 : FamIn w.heap.size nm k un he (.slice a l.length c) (w.alloc (.cells #[.string nm,.int .i64 k,.string un,.string he,.slice a l.length c] 35)) := heap_last _ _
 have hx : Ext w (w.alloc (.cells #[.string nm,.int .i64 k,.string un,.string he,.slice a l.length c] 35)) := (Ext.refl _).alloc _
 go_enter Tryz.func46,Tryz.ntmps46
 have hmf : ∀ (fn : Fn) (first cap : Array Value) (w : World),(Instr.makeFunc fn first cap).run Tryz.prog w = .ok (.func fn first cap) w := fun _ _ _ _ => rfl
 obtain ⟨c0,c1,c2,c3,c4⟩ := h1.cells
 go_wp2_with fail
 (with_reducible refine (N _).mono ?_)
 rintro e wz ⟨rfl,x1⟩
 replace h1 := h1.ext x1
 replace hx := hx.trans x1
 clear x1 c0 c1 c2 c3 c4
 obtain ⟨c0,c1,c2,c3,c4⟩ := h1.cells
 cases b1
 ·have HV : false = R := by rw [← hR]; simp
  replace HV := Lib.hid HV
  clear hR
  go_wp2_with fail
  go_ret
  exact ⟨retB HV.out,hx⟩
 ·go_wp2_with fail
  (with_reducible refine (TY _).mono ?_)
  rintro e wz ⟨rfl,x1⟩
  replace h1 := h1.ext x1
  replace hx := hx.trans x1
  clear x1 c0 c1 c2 c3 c4
  obtain ⟨c0,c1,c2,c3,c4⟩ := h1.cells
  cases bk
  ·go_wp2_with fail
   (with_reducible refine (U _).mono ?_)
   rintro e wz ⟨rfl,x1⟩
   replace h1 := h1.ext x1
   replace hx := hx.trans x1
   clear x1 c0 c1 c2 c3 c4
   obtain ⟨c0,c1,c2,c3,c4⟩ := h1.cells
   cases b2
   ·have HV : false = R := by rw [← hR]; simp
    replace HV := Lib.hid HV
    clear hR
    go_wp2_with fail
    go_ret
    exact ⟨retB HV.out,hx⟩
   ·go_wp2_with fail
    (with_reducible refine (H _).mono ?_)
    rintro e wz ⟨rfl,x1⟩
    replace h1 := h1.ext x1
    replace hx := hx.trans x1
    clear x1 c0 c1 c2 c3 c4
    obtain ⟨c0,c1,c2,c3,c4⟩ := h1.cells
    cases b3
    ·have HV : false = R := by rw [← hR]; simp
     replace HV := Lib.hid HV
     clear hR
     go_wp2_with fail
     go_ret
     exact ⟨retB HV.out,hx⟩
    ·have CB := fun W (h : FamIn w.heap.size nm k un he (.slice a l.length c) W) (x : Ext w W) => anyBad_any w.heap.size nm k un he (.slice a l.length c) a c l W h hl (hA.ext x)
     generalize l.all (fun p => p.good k) = b4 at *
     go_wp2_with fail
     (with_reducible refine (CB _ h1 hx).mono ?_)
     rintro e wz ⟨rfl,x1⟩
     replace h1 := h1.ext x1
     replace hx := hx.trans x1
     clear x1 c0 c1 c2 c3 c4
     obtain ⟨c0,c1,c2,c3,c4⟩ := h1.cells
     cases b4
     ·have HV : false = R := by rw [← hR]; simp
      replace HV := Lib.hid HV
      clear hR
      go_wp2_with fail
      go_ret
      exact ⟨retB HV.out,hx⟩
     ·have RI := fun W (x : Ext w W) => rises_any a c l W hl (hA.ext x)
      generalize risesK (l.map PtD.k) = b5 at *
      go_wp2_with fail
      (with_reducible refine (RI _ hx).mono ?_)
      rintro e wz ⟨rfl,x1⟩
      replace h1 := h1.ext x1
      replace hx := hx.trans x1
      clear x1 c0 c1 c2 c3 c4
      obtain ⟨c0,c1,c2,c3,c4⟩ := h1.cells
      have HV : b5 = R := by rw [← hR]; simp
      replace HV := Lib.hid HV
      clear hR
      go_wp2_with fail
      go_ret
      exact ⟨retB HV.out,hx⟩
  ·have HV : false = R := by rw [← hR]; simp
   replace HV := Lib.hid HV
   clear hR
   go_wp2_with fail
   go_ret
   exact ⟨retB HV.out,hx⟩
theorem insNil_any (F : Value) (w : World) : Calls Tryz.prog 125 #[.slice none 0 0,.int .i64 0,.int .i64 0,F] w fun e w' => e = .returned (.tuple #[]) ∧ Ext w w' := by
 go_enter Tryz.func125,Tryz.ntmps125
 go_wp2_with fail
 refine wp_loop_rounds 1 ?_
 rw [rounds_succ]
 go_wp2_with fail
 go_end0
 exact ⟨rfl,Ext.refl _⟩
theorem stableNil_any (F : Value) (w : World) : Calls Tryz.prog 102 #[.slice none 0 0,.int .i64 0,F] w fun e w' => e = .returned (.tuple #[]) ∧ Ext w w' := by
 have I := insNil_any F
 go_enter Tryz.func102,Tryz.ntmps102
 go_wp2_with fail
 refine wp_loop_rounds 1 ?_
 rw [rounds_succ]
 go_wp2_with fail
 (with_reducible refine (I _).mono ?_)
 rintro e w1 ⟨rfl,x1⟩
 go_wp2_with fail
 refine wp_loop_rounds 1 ?_
 rw [rounds_succ]
 go_wp2_with fail
 go_end0
 exact ⟨rfl,x1⟩
theorem sortNil_any (F : Value) (w : World) : Calls Tryz.prog 69 #[.slice none 0 0,F] w fun e w' => e = .returned (.tuple #[]) ∧ Ext w w' := by
 have I := stableNil_any F
 go_enter Tryz.func69,Tryz.ntmps69
 go_wp2_with fail
 (with_reducible refine (I _).mono ?_)
 rintro e w1 ⟨rfl,x1⟩
 go_wp2_with fail
 go_end0
 exact ⟨rfl,x1⟩
theorem PtD.Ok.extB {p : PtD} {g : Nat} {w W : World} (h : p.Ok w) (x : ExtB g w W) (hr : ∀ a,p.a = some a → a.block ≠ g) : p.Ok W := by
 refine ⟨h.1,fun h0 => ?_,h.2.2⟩
 obtain ⟨b,o,e,hb,hl⟩ := h.2.1 h0
 have hn := hr _ e
 exact ⟨b,o,e,Nat.lt_of_lt_of_le hb x.size,fun i hi => ⟨(x.cell (p := ⟨b,o + i * 2,none⟩) hb hn).trans (hl i hi).1,(x.cell (p := ⟨b,o + i * 2 + 1,none⟩) hb hn).trans (hl i hi).2⟩⟩
theorem ExtB.grown {g : Nat} {w W : World} (x : ExtB g w W) : w.grownBy W (some g) := ⟨x.os,x.tape,x.output,x.size,fun k hk hn => x.blk k hk (fun e => hn (by rw [e]))⟩
theorem Ext.grown {w W : World} (x : Ext w W) (r : Option Nat) : w.grownBy W r := ⟨x.1,x.2,x.3,x.size,fun _ hk _ => x.heap hk⟩
theorem range_getD (L : List PtD) : (List.range L.length).map (fun i => L[i]?.getD PtD.zero) = L := by
 refine List.ext_getElem (by simp) (fun i h1 h2 => ?_)
 simp at h1 ⊢
 simp [h1]
theorem sortPts_any (base : Nat) (v : Value) (L : List PtD) (w : World) (hO : OwnP base v L w) (hl : L.length ≤ 1000) :
  Calls Tryz.prog 69 #[v,.func (.func 56) #[] #[]] w fun e w' => e = .returned (.tuple #[]) ∧ ∃ L',L'.Perm L ∧ L'.Pairwise (fun x y => ¬ cmpK y.k x.k < 0) ∧ OwnP base v L' w' ∧ w.grownBy w' v.ownBlock := by
 rcases hO.1 with ⟨rfl,h0⟩ | ⟨g,cap,rfl,q1,q2,c,q3,q4,q5⟩
 ·have : L = [] := List.length_eq_zero_iff.1 h0
  subst this
  exact (sortNil_any _ w).mono fun e w' ⟨h1,h2⟩ => ⟨h1,[],List.Perm.refl _,List.Pairwise.nil,hO.ext h2,h2.grown _⟩
 ·have hR : RowE 9 40 PtD.cs g L.length (fun i => L[i]?.getD PtD.zero) w := ⟨c,q3,by rw [q4]; exact Nat.mul_le_mul_right 9 q2,q5⟩
  have hS : ∀ i,i < L.length → (fun i => L[i]?.getD PtD.zero) i ∈ L := fun i hi => by simp [hi]
  have off : ∀ p ∈ L,∀ a,p.a = some a → a.block ≠ g := fun p hp a ha => (hO.2 p hp).off a ha g rfl
  refine (sort_p (fun p => p ∈ L) (fun p q => cmpK p.k q.k) (lt_of_cmp (cmpK_cmp.pull PtD.k)) g L.length cap (fun i => L[i]?.getD PtD.zero) w w hR.lt hl (ExtB.refl _ _) hR hS
   (fun W x y hX hx hy => cmpD_any x y W ((hO.2 x hx).ok.extB hX (off x hx)) ((hO.2 y hy).ok.extB hX (off y hy)))).mono ?_
  rintro e w' ⟨rfl,d',k1,k2,k3,k4⟩
  have hp : ((List.range L.length).map d').Perm L := by
   have := k1.perm (Nat.le_refl _)
   rwa [range_getD] at this
  refine ⟨rfl,(List.range L.length).map d',hp,sd_pairwise (f := fun p q => cmpK p.k q.k) d' _ k2,⟨?_,fun p hpm => ?_⟩,k4.grown⟩
  ·obtain ⟨c',e1,e2⟩ := k4.row c _ _ q3
   obtain ⟨c2,e3,e4,e5⟩ := k3
   rw [e1] at e3
   injection e3 with e3
   injection e3 with e3
   subst e3
   rw [List.length_map,List.length_range]
   refine .inr ⟨g,cap,rfl,q1,q2,c',e1,by rw [e2]; exact q4,fun i hi j hj => ?_⟩
   rw [e5 i hi j hj]
   simp [hi]
  ·have hm := hp.subset hpm
   exact ⟨(hO.2 p hm).ok.extB k4 (off p hm),(hO.2 p hm).lo,fun x hx => Nat.lt_of_lt_of_le ((hO.2 p hm).hi x hx) k4.size,(hO.2 p hm).off⟩
theorem FamIn.free {b : Nat} {nm : ByteArray} {k : Int} {un he : ByteArray} {pv : Value} {w : World} (h : FamIn b nm k un he pv w) (o : Nat) : w.frozen? ⟨b,o,none⟩ = false := by
 unfold FamIn at h
 unfold World.frozen?
 rw [h]; simp
theorem ownFam_any (nm : ByteArray) (k : Int) (un he : ByteArray) (a : Option Addr) (c : Nat) (l : List PtD) (w : World) (hl : l.length ≤ 1000) (hL : ∀ p ∈ l,p.l.length ≤ 1000) (hA : PtsA a l w) :
  Calls Tryz.prog 54 #[.agg #[.string nm,.int .i64 k,.string un,.string he,.slice a l.length c]] w fun e w' => (∃ v L,e = .returned (.agg #[.string nm,.int .i64 k,.string un,.string he,v]) ∧ L.map PtD.y = l.map PtD.y ∧ OwnP w.heap.size v L w') ∧ Ext w w' := by
 have CL := fun W (x : Ext w W) => ownPoints_any a c l W hl hL (hA.ext x)
 obtain ⟨V,hV⟩ : ∃ V,Value.slice a l.length c = V := ⟨_,rfl⟩
 rw [hV] at CL ⊢
 obtain ⟨W,hW⟩ : ∃ W,(w.alloc (.cells #[.string nm,.int .i64 k,.string un,.string he,V] 35)).alloc (.cells #[.string ⟨#[]⟩,.int .i64 0,.string ⟨#[]⟩,.string ⟨#[]⟩,.slice none 0 0] 35) = W := ⟨_,rfl⟩
 have x1 : Ext w W := by rw [← hW]; exact ((Ext.refl w).alloc _).alloc _
 have h1 : FamIn w.heap.size nm k un he V W := by rw [← hW]; exact heap_at2a _ _ _
 have h2 : FamIn (w.heap.size + 1) ⟨#[]⟩ 0 ⟨#[]⟩ ⟨#[]⟩ (.slice none 0 0) W := by rw [← hW]; exact heap_at2b _ _ _
 have hWz : w.heap.size + 2 ≤ W.heap.size := by rw [← hW]; simp
 replace hW := Lib.hid hW
 go_enter Tryz.func54,Tryz.ntmps54
 go_wp2_with fail
 rw [hW.out]
 (with_reducible refine (CL _ x1).mono ?_)
 rintro e w2 ⟨⟨v,L,rfl,hy,hO⟩,x2⟩
 replace h1 := h1.ext x2
 replace h2 := h2.ext x2
 have x3 := x1.trans x2
 obtain ⟨c0,c1,c2,c3,c4⟩ := h1.cells
 obtain ⟨d0,d1,d2,d3,d4⟩ := h2.cells
 have fr1 := fun o => h1.free o
 have fr2 := fun o => h2.free o
 obtain ⟨a',c',hv⟩ := hO.1.form
 subst hv
 clear h1 h2
 go_wp2_with fail
 have hz1 : w.heap.size ≤ w.heap.size + 1 := Nat.le_succ _
 have XF := (((((x3.setC w.heap.size 4 (.slice a' L.length c') (Nat.le_refl _)).setC (w.heap.size + 1) 0 (.string nm) hz1).setC (w.heap.size + 1) 1 (.int .i64 k) hz1).setC (w.heap.size + 1) 2 (.string un) hz1).setC (w.heap.size + 1) 3 (.string he) hz1).setC (w.heap.size + 1) 4 (.slice a' L.length c') hz1
 have OF := (((((hO.setC w.heap.size 4 (.slice a' L.length c') (by omega)).setC (w.heap.size + 1) 0 (.string nm) (by omega)).setC (w.heap.size + 1) 1 (.int .i64 k) (by omega)).setC (w.heap.size + 1) 2 (.string un) (by omega)).setC (w.heap.size + 1) 3 (.string he) (by omega)).setC (w.heap.size + 1) 4 (.slice a' L.length c') (by omega)
 refine bodyPost_ret (v := .agg #[.string nm,.int .i64 k,.string un,.string he,.slice a' L.length c']) ?_ rfl ⟨⟨_,L,rfl,hy,OF.mono (by omega)⟩,XF⟩
 simp [results,Tryz.results54,go_sem,d0,d1,d2,d3,d4]
theorem FamIn.grown {b : Nat} {nm : ByteArray} {k : Int} {un he : ByteArray} {pv : Value} {w w' : World} {r : Option Nat} (h : FamIn b nm k un he pv w) (g : w.grownBy w' r) (hr : ∀ x,r = some x → b ≠ x) : FamIn b nm k un he pv w' :=
 (g.block b (Array.getElem?_eq_some_iff.1 h).1 (fun e => hr _ e.symm rfl)).trans h
theorem FamIn.stored {b : Nat} {nm : ByteArray} {k : Int} {un he : ByteArray} {pv : Value} {w : World} (h : FamIn b nm k un he pv w) (nm' : ByteArray) (k' : Int) (un' he' : ByteArray) (pv' : Value) :
  FamIn b nm' k' un' he' pv' (((((w.setCell ⟨b,0,none⟩ (.string nm')).setCell ⟨b,1,none⟩ (.int .i64 k')).setCell ⟨b,2,none⟩ (.string un')).setCell ⟨b,3,none⟩ (.string he')).setCell ⟨b,4,none⟩ pv') := by
 have e := heap_setCells b [.string nm',.int .i64 k',.string un',.string he',pv'] 0 w _ _ _ h
 rw [show setL #[.string nm,.int .i64 k,.string un,.string he,pv] 0 [.string nm',.int .i64 k',.string un',.string he',pv'] = #[.string nm',.int .i64 k',.string un',.string he',pv'] from by simp [setL]] at e
 simp only [World.setCells] at e
 exact e
theorem FamIn.setC {b : Nat} {nm : ByteArray} {k : Int} {un he : ByteArray} {pv : Value} {w : World} (h : FamIn b nm k un he pv w) (b' o : Nat) (u : Value) (hb : b ≠ b') : FamIn b nm k un he pv (w.setCell ⟨b',o,none⟩ u) := by
 unfold FamIn World.setCell
 simp only [Array.getElem?_modify]
 rw [if_neg (fun e => hb e.symm)]
 exact h
theorem OwnP.set5 {base : Nat} {v : Value} {L : List PtD} {W : World} (h : OwnP base v L W) (b : Nat) (hb : b < base) (u0 u1 u2 u3 u4 : Value) :
  OwnP base v L (((((W.setCell ⟨b,0,none⟩ u0).setCell ⟨b,1,none⟩ u1).setCell ⟨b,2,none⟩ u2).setCell ⟨b,3,none⟩ u3).setCell ⟨b,4,none⟩ u4) :=
 ((((h.setC b 0 u0 hb).setC b 1 u1 hb).setC b 2 u2 hb).setC b 3 u3 hb).setC b 4 u4 hb
theorem Ext.set5 {w W : World} (h : Ext w W) (b : Nat) (hb : w.heap.size ≤ b) (u0 u1 u2 u3 u4 : Value) :
  Ext w (((((W.setCell ⟨b,0,none⟩ u0).setCell ⟨b,1,none⟩ u1).setCell ⟨b,2,none⟩ u2).setCell ⟨b,3,none⟩ u3).setCell ⟨b,4,none⟩ u4) :=
 ((((h.setC b 0 u0 hb).setC b 1 u1 hb).setC b 2 u2 hb).setC b 3 u3 hb).setC b 4 u4 hb
def SortTold (nm : ByteArray) (k : Int) (un he : ByteArray) (l : List PtD) (base : Nat) (e : Ending) (w' : World) : Prop :=
 (∃ v L,(L.map PtD.y).Perm (l.map PtD.y) ∧ Ris cmpY (L.map PtD.y) ∧ e = .returned (.tuple #[.agg #[.string nm,.int .i64 k,.string un,.string he,v],.bool true]) ∧ OwnP base v L w') ∨
 ((∀ M : List PtY,M.Perm (l.map PtD.y) → ¬ Ris cmpY M) ∧ e = .returned (.tuple #[.agg #[.string ⟨#[]⟩,.int .i64 0,.string ⟨#[]⟩,.string ⟨#[]⟩,.slice none 0 0],.bool false]))
theorem famSort_any (nm : ByteArray) (k : Int) (un he : ByteArray) (a : Option Addr) (c : Nat) (l : List PtD) (w : World) (hl : l.length ≤ 1000) (hL : ∀ p ∈ l,p.l.length ≤ 1000) (hA : PtsA a l w) :
  Calls Tryz.prog 38 #[.agg #[.string nm,.int .i64 k,.string un,.string he,.slice a l.length c]] w fun e w' => SortTold nm k un he l w.heap.size e w' ∧ Ext w w' := by
 have CL := fun W (x : Ext w W) => ownFam_any nm k un he a c l W hl hL (hA.ext x)
 obtain ⟨V,hV⟩ : ∃ V,Value.slice a l.length c = V := ⟨_,rfl⟩
 rw [hV] at CL ⊢
 obtain ⟨W,hW⟩ : ∃ W,(w.alloc (.cells #[.string nm,.int .i64 k,.string un,.string he,V] 35)).alloc (.cells #[.string ⟨#[]⟩,.int .i64 0,.string ⟨#[]⟩,.string ⟨#[]⟩,.slice none 0 0] 35) = W := ⟨_,rfl⟩
 have x1 : Ext w W := by rw [← hW]; exact ((Ext.refl w).alloc _).alloc _
 have h1 : FamIn w.heap.size nm k un he V W := by rw [← hW]; exact heap_at2a _ _ _
 have h2 : FamIn (w.heap.size + 1) ⟨#[]⟩ 0 ⟨#[]⟩ ⟨#[]⟩ (.slice none 0 0) W := by rw [← hW]; exact heap_at2b _ _ _
 have hWz : w.heap.size + 2 ≤ W.heap.size := by rw [← hW]; simp
 replace hW := Lib.hid hW
 have hz1 : w.heap.size ≤ w.heap.size + 1 := Nat.le_succ _
 obtain ⟨c0,c1,c2,c3,c4⟩ := h1.cells
 go_enter Tryz.func38,Tryz.ntmps38
 go_wp2_with fail
 rw [hW.out]
 (with_reducible refine (CL _ x1).mono ?_)
 rintro e w2 ⟨⟨v,L,rfl,hy,hO⟩,x2⟩
 clear c0 c1 c2 c3 c4 CL
 replace h1 := h1.ext x2
 replace h2 := h2.ext x2
 have x3 := x1.trans x2
 obtain ⟨c0,c1,c2,c3,c4⟩ := h1.cells
 have fr1 := fun o => h1.free o
 obtain ⟨a',c',hv⟩ := hO.1.form
 subst hv
 have hLl : L.length ≤ 1000 := by have := congrArg List.length hy; simp at this; omega
 have h1' := h1.stored nm k un he (.slice a' L.length c')
 have h2' := (((((h2.setC w.heap.size 0 (.string nm) (by omega)).setC w.heap.size 1 (.int .i64 k) (by omega)).setC w.heap.size 2 (.string un) (by omega)).setC w.heap.size 3 (.string he) (by omega)).setC w.heap.size 4 (.slice a' L.length c') (by omega))
 have hO' := hO.set5 w.heap.size (by omega) (.string nm) (.int .i64 k) (.string un) (.string he) (.slice a' L.length c')
 have x4 := x3.set5 w.heap.size (Nat.le_refl _) (.string nm) (.int .i64 k) (.string un) (.string he) (.slice a' L.length c')
 clear h1 h2 hO x3
 go_wp2_with fail
 clear c0 c1 c2 c3 c4 fr1
 have ST := sortPts_any _ _ L _ hO' hLl
 (with_reducible refine ST.mono ?_)
 rintro e w4 ⟨rfl,L',hp,hs,hO4,hg⟩
 clear ST
 have hbl : ∀ x,(Value.slice a' L.length c').ownBlock = some x → W.heap.size ≤ x := fun x hx => (hO'.1.lt x hx).1
 replace h1' := h1'.grown hg (fun x hx => by have := hbl x hx; omega)
 replace h2' := h2'.grown hg (fun x hx => by have := hbl x hx; omega)
 have x5 : Ext w w4 := grown_ext' x4 hg (Nat.le_refl _) (fun x hx => by have := hbl x hx; omega)
 clear x4 hg hO' x2 x1
 obtain ⟨c0,c1,c2,c3,c4⟩ := h1'.cells
 obtain ⟨a2,c2',hv2,hP⟩ := hO4.pts
 injection hv2 with e1 e2 e3
 subst e1 e3
 have hlen := hp.length_eq
 have RI := rises_any a' c' L' w4 (by omega) hP
 rw [← e2] at RI
 obtain ⟨R,hR⟩ : ∃ R,risesK (L'.map PtD.k) = R := ⟨_,rfl⟩
 rw [hR] at RI
 have hyp : (L'.map PtD.y).Perm (l.map PtD.y) := by rw [← hy]; exact hp.map _
 have hsort : (L'.map PtD.y).Pairwise (fun x y => ¬ cmpY y x < 0) := by rw [List.pairwise_map]; exact hs
 have hfin := risesK_y L'
 rw [hR] at hfin
 replace hfin := Lib.hid hfin
 replace hlen := Lib.hid hlen
 replace e2 := Lib.hid e2
 clear hy hp hs hP hR
 go_wp2_with fail
 (with_reducible refine RI.mono ?_)
 rintro e w5 ⟨rfl,x6⟩
 clear RI c0 c1 c2 c3 c4
 replace h1' := h1'.ext x6
 replace h2' := h2'.ext x6
 have x7 := x5.trans x6
 replace hO4 := hO4.ext x6
 obtain ⟨c0,c1,c2,c3,c4⟩ := h1'.cells
 obtain ⟨d0,d1,d2,d3,d4⟩ := h2'.cells
 have g0 : w5.frozen? ⟨w.heap.size + 1,0,none⟩ = false := h2'.free 0
 have g1 : w5.frozen? ⟨w.heap.size + 1,1,none⟩ = false := h2'.free 1
 have g2 : w5.frozen? ⟨w.heap.size + 1,2,none⟩ = false := h2'.free 2
 have g3 : w5.frozen? ⟨w.heap.size + 1,3,none⟩ = false := h2'.free 3
 have g4 : w5.frozen? ⟨w.heap.size + 1,4,none⟩ = false := h2'.free 4
 clear h1' h2'
 cases R
 ·go_wp2_with fail
  refine bodyPost_ret (v := .tuple #[.agg #[.string ⟨#[]⟩,.int .i64 0,.string ⟨#[]⟩,.string ⟨#[]⟩,.slice none 0 0],.bool false]) ?_ rfl ⟨.inr ⟨fun M hM hr => ?_,rfl⟩,x7.set5 (w.heap.size + 1) hz1 _ _ _ _ _⟩
  ·simp [results,Tryz.results38,go_sem,d0,d1,d2,d3,d4]
  ·exact absurd (hfin.out.2 (Ris.of_sorted cmpY_cmp (hsort.imp (fun {x y} h => by omega)) hr (hyp.trans hM.symm))) (by decide)
 ·go_wp2_with fail
  refine bodyPost_ret (v := .tuple #[.agg #[.string nm,.int .i64 k,.string un,.string he,.slice a' L.length c'],.bool true]) ?_ rfl ⟨.inl ⟨_,L',hyp,hfin.out.1 (by first | rfl | trivial),rfl,(hO4.set5 (w.heap.size + 1) (by omega) _ _ _ _ _).mono (by omega)⟩,x7.set5 (w.heap.size + 1) hz1 _ _ _ _ _⟩
  simp [results,Tryz.results38,go_sem,d0,d1,d2,d3,d4]
def sameY (x y : PtY) : Bool := cmpY x y == 0 && (x.2.1 == y.2.1 && x.2.2 == y.2.2)
def sameYs : List PtY → List PtY → Bool
 | [],[] => true
 | x :: l,y :: m => sameY x y && sameYs l m
 | _,_ => false
theorem sameY_refl (x : PtY) : sameY x x = true := by unfold sameY; rw [cmpY_cmp.refl x]; simp
theorem sameYs_refl : ∀ l,sameYs l l = true
 | [] => rfl
 | x :: l => by unfold sameYs; rw [sameY_refl,sameYs_refl l]; rfl
theorem sameYs_len : ∀ l m,sameYs l m = true → l.length = m.length
 | [],[],_ => rfl
 | x :: l,y :: m,h => by
   unfold sameYs at h
   rw [Bool.and_eq_true] at h
   rw [List.length_cons,List.length_cons,sameYs_len l m h.2]
theorem tl_inj {a b : ByteArray} (h : a.toList = b.toList) : a = b := by
 rw [ByteArray.toList_eq,ByteArray.toList_eq] at h
 cases a; cases b
 simp only [ByteArray.mk.injEq]
 exact Array.toList_inj.1 h
def headB (n1 : ByteArray) (k1 : Int) (u1 h1 n2 : ByteArray) (k2 : Int) (u2 h2 : ByteArray) : Bool := decide (n1 = n2 ∧ k1 = k2 ∧ u1 = u2 ∧ h1 = h2)
def goodY (k : Int) (y : PtY) : Bool := goodPt k y.1.l y.1.r y.1.f y.1.M y.1.S y.2.1 y.2.2 y.1.t y.1.T
def goodFamY (nm : ByteArray) (k : Int) (un he : ByteArray) (l : List PtY) : Bool :=
 (nameB nm && (!(decide (k < 0 ∨ 4 < k)) && (valueB un && valueB he))) && (l.all (goodY k) && risesK (l.map (fun y => y.1)))
theorem goodFam_y (nm : ByteArray) (k : Int) (un he : ByteArray) (l : List PtD) : goodFam nm k un he l = goodFamY nm k un he (l.map PtD.y) := by
 unfold goodFam goodFamY
 rw [List.all_map,List.map_map]
 rfl
end Go.Proofs.YtjjnmefihdjglaaGreat
