import Derived.Test.YtjjnmefihdjglaaGreatKR
import Derived.Test.YtjjnmefihdjglaaGreatKI
import Derived.Test.YtjjnmefihdjglaaGreatKJ
set_option maxRecDepth 100000
set_option maxHeartbeats 64000000
set_option linter.all false
namespace Go.Proofs.YtjjnmefihdjglaaGreat
open Go.RowKit
abbrev PtInD (b : Nat) (p : PtD) (w : World) : Prop := PtIn b (.slice p.a p.l.length p.c) p.r p.f p.M p.S p.m p.s p.t p.T w
theorem later_any (b : Nat) (p q : PtD) (w : World) (h : PtInD b p w) (hp : p.Ok w) (hq : q.Ok w) :
  Calls Tryz.prog 55 #[q.v,.pointer (some ⟨b,0,none⟩)] w fun e w' => e = .returned (.bool (cmpK p.k q.k == 0)) ∧ Ext w w' := by
 obtain ⟨c0,c1,c2,c3,c4,c5,c6,c7,c8⟩ := h.cells
 have hb : b < w.heap.size := (Array.getElem?_eq_some_iff.1 h).1
 have G := fun W (x : Ext w W) => cmpD_any p q W (hp.ext x) (hq.ext x)
 generalize cmpK p.k q.k = g at *
 unfold PtD.v ptV at G ⊢
 have hx : Ext w (w.alloc (.cells #[.slice q.a q.l.length q.c,.int .i64 q.r,.bool q.f,.int .i64 q.M,.int .i64 q.S,.int .i64 q.m,.int .i64 q.s,.bool q.t,.int .i64 q.T] 40)) := (Ext.refl _).alloc _
 clear h hp hq
 go_enter Tryz.func55,Tryz.ntmps55
 go_wp2_with fail
 (with_reducible refine (G _ hx).mono ?_)
 rintro e w1 ⟨rfl,x1⟩
 go_wp2_with fail
 go_ret
 exact ⟨rfl,hx.trans x1⟩
def likeAt (x : PtY) : Nat → List PtY → Int
 | _,[] => -1
 | i,y :: l => if cmpY x y = 0 then i else likeAt x (i + 1) l
def likeIn (x : PtY) (l : List PtY) : Bool := l.any (fun y => cmpY x y == 0)
theorem likeAt_in (x : PtY) : ∀ (l : List PtY) (i : Nat),decide (likeAt x i l ≥ 0) = likeIn x l
 | [],i => by simp [likeAt,likeIn]
 | y :: l,i => by
   unfold likeAt
   by_cases h : cmpY x y = 0
   ·rw [if_pos h]; simp [likeIn,h]
   ·rw [if_neg h,likeAt_in x l (i + 1)]; simp [likeIn,h]
theorem indexLater_any (b : Nat) (p0 : PtD) (a : Option Addr) (c : Nat) (l : List PtD) (w : World) (h : PtInD b p0 w) (hp0 : p0.Ok w) (hl : l.length ≤ 1000000) (hA : PtsA a l w) :
  Calls Tryz.prog 89 #[.slice a l.length c,.func (.func 55) #[] #[.pointer (some ⟨b,0,none⟩)]] w fun e w' => e = .returned (.int .i64 (likeAt p0.y 0 (l.map PtD.y))) ∧ Ext w w' := by
 obtain ⟨R,hR⟩ : ∃ R,likeAt p0.y 0 (l.map PtD.y) = R := ⟨_,rfl⟩
 rw [hR]
 go_enter Tryz.func89,Tryz.ntmps89
 go_wp2_with fail
 go_loopw [8] (fun i wr => ∃ j : Nat,i = .int .i64 j ∧ j ≤ l.length ∧ Hid (likeAt p0.y j ((l.drop j).map PtD.y) = R) ∧ Ext w wr) (fun i _ => l.length - (intOf i).toNat)
 case atStart => exact ⟨0,rfl,Nat.zero_le _,Lib.hid hR,Ext.refl _⟩
 case round =>
  obtain ⟨j,rfl,hk,hg,xr⟩ := hrel
  clear hR
  by_cases hlt : j < l.length
  ·have hd := hg.out
   rw [List.drop_eq_getElem_cons hlt,List.map_cons] at hd
   unfold likeAt at hd
   obtain ⟨b1,o1,rfl,hb1,hL⟩ := hA.1 (by omega)
   have ok := (hA.2 _ (List.getElem_mem hlt)).ext xr
   obtain ⟨p0',p1,p2,p3,p4,p5,p6,p7,p8⟩ := hL j hlt
   generalize l[j] = p at *
   have C := later_any b p0 p wr (h.ext xr) (hp0.ext xr) ok
   rw [show cmpY p0.y p.y = cmpK p0.k p.k from rfl] at hd
   obtain ⟨cv,hcv⟩ : ∃ cv,cmpK p0.k p.k = cv := ⟨_,rfl⟩
   rw [hcv] at C hd
   unfold PtD.v ptV at C
   replace p0' := (Ext.cell xr hb1).trans p0'
   replace p1 := (Ext.cell xr hb1).trans p1
   replace p2 := (Ext.cell xr hb1).trans p2
   replace p3 := (Ext.cell xr hb1).trans p3
   replace p4 := (Ext.cell xr hb1).trans p4
   replace p5 := (Ext.cell xr hb1).trans p5
   replace p6 := (Ext.cell xr hb1).trans p6
   replace p7 := (Ext.cell xr hb1).trans p7
   replace p8 := (Ext.cell xr hb1).trans p8
   clear hL ok hA hg hcv
   by_cases h0 : cv = 0
   ·subst h0
    rw [if_pos rfl] at hd
    rw [show ((0 : Int) == 0) = true from rfl] at C
    replace hd := Lib.hid hd
    go_wp2_with fail
    (with_reducible refine C.mono ?_)
    rintro e w1 ⟨rfl,x1⟩
    clear p0' p1 p2 p3 p4 p5 p6 p7 p8
    go_wp2_with fail
    go_ret
    exact ⟨retI hd.out,xr.trans x1⟩
   ·rw [if_neg h0] at hd
    rw [show (cv == 0) = false from by simpa using h0] at C
    replace hd := Lib.hid hd
    go_wp2_with fail
    (with_reducible refine C.mono ?_)
    rintro e w1 ⟨rfl,x1⟩
    clear p0' p1 p2 p3 p4 p5 p6 p7 p8
    go_wp2_with fail
    go_roundw
    case rel => exact ⟨j + 1,rfl,hlt,hd,xr.trans x1⟩
    case measure => simp only [intOf]; omega
  ·have hd := hg.out
   rw [show l.drop j = [] from List.drop_eq_nil_of_le (by omega)] at hd
   replace hd : Hid ((-1 : Int) = R) := Lib.hid hd
   have hk3 : l.length ≤ j := by omega
   clear hk hg hA hlt
   go_wp2_with fail
   go_ret
   exact ⟨retI hd.out,xr⟩
theorem anyLater_any (b : Nat) (p0 : PtD) (a : Option Addr) (c : Nat) (l : List PtD) (w : World) (h : PtInD b p0 w) (hp0 : p0.Ok w) (hl : l.length ≤ 1000000) (hA : PtsA a l w) :
  Calls Tryz.prog 57 #[.slice a l.length c,.func (.func 55) #[] #[.pointer (some ⟨b,0,none⟩)]] w fun e w' => e = .returned (.bool (likeIn p0.y (l.map PtD.y))) ∧ Ext w w' := by
 have C := fun W (x : Ext w W) => indexLater_any b p0 a c l W (h.ext x) (hp0.ext x) hl (hA.ext x)
 rw [← likeAt_in _ _ 0]
 generalize likeAt p0.y 0 (l.map PtD.y) = i at *
 clear h hp0 hA
 go_enter Tryz.func57,Tryz.ntmps57
 go_wp2_with fail
 (with_reducible refine (C _ (Ext.refl _)).mono ?_)
 rintro e w1 ⟨rfl,x1⟩
 go_wp2_with fail
 go_ret
 exact ⟨rfl,x1⟩
theorem FamIn.set4 {b : Nat} {nm : ByteArray} {k : Int} {un he : ByteArray} {pv : Value} {w : World} (h : FamIn b nm k un he pv w) (u : Value) : FamIn b nm k un he u (w.setCell ⟨b,4,none⟩ u) := by
 have e := heap_setCells b [u] 4 w _ _ _ h
 rw [show setL #[.string nm,.int .i64 k,.string un,.string he,pv] 4 [u] = #[.string nm,.int .i64 k,.string un,.string he,u] from by simp [setL]] at e
 simp only [World.setCells] at e
 exact e
theorem FamIn.set2 {b : Nat} {nm : ByteArray} {k : Int} {un he : ByteArray} {pv : Value} {w : World} (h : FamIn b nm k un he pv w) (u : ByteArray) : FamIn b nm k u he pv (w.setCell ⟨b,2,none⟩ (.string u)) := by
 have e := heap_setCells b [.string u] 2 w _ _ _ h
 rw [show setL #[.string nm,.int .i64 k,.string un,.string he,pv] 2 [.string u] = #[.string nm,.int .i64 k,.string u,.string he,pv] from by simp [setL]] at e
 simp only [World.setCells] at e
 exact e
theorem FamIn.set3 {b : Nat} {nm : ByteArray} {k : Int} {un he : ByteArray} {pv : Value} {w : World} (h : FamIn b nm k un he pv w) (u : ByteArray) : FamIn b nm k un u pv (w.setCell ⟨b,3,none⟩ (.string u)) := by
 have e := heap_setCells b [.string u] 3 w _ _ _ h
 rw [show setL #[.string nm,.int .i64 k,.string un,.string he,pv] 3 [.string u] = #[.string nm,.int .i64 k,.string un,.string u,pv] from by simp [setL]] at e
 simp only [World.setCells] at e
 exact e
theorem OwnP.setOff {base : Nat} {v : Value} {L : List PtD} {W : World} (h : OwnP base v L W) (b o : Nat) (u : Value) (h1 : ∀ x,v.ownBlock = some x → b ≠ x) (h2 : ∀ p ∈ L,∀ x,p.a = some x → b ≠ x.block) : OwnP base v L (W.setCell ⟨b,o,none⟩ u) := by
 refine ⟨h.1.keep (fun g hg => ?_),fun p hp => ⟨(h.2 p hp).ok.sta (sta_setC W b o u) (fun x hx => (h2 p hp x hx).symm),(h.2 p hp).lo,fun x hx => by rw [World.size_setCell]; exact (h.2 p hp).hi x hx,(h.2 p hp).off⟩⟩
 unfold World.setCell
 simp only [Array.getElem?_modify]
 rw [if_neg (h1 g hg)]
def putH (a b : FamY) : FamY :=
 ⟨b.nm,b.k,if b.un.toList.isEmpty = true then a.un else b.un,if b.he.toList.isEmpty = true then a.he else b.he,b.ps ++ a.ps.filter (fun p => !(likeIn p b.ps))⟩
open Classical in
noncomputable def putY (a b : FamY) : Option FamY := if a.nm = b.nm ∧ a.k = b.k ∧ goodF a = true ∧ goodF b = true then srt (putH a b) else none
def PutTold (a b : FamY) (base : Nat) (e : Ending) (w' : World) : Prop :=
 (∃ q : FamD,putY a b = some q.y ∧ e = .returned (.tuple #[.agg #[.string q.nm,.int .i64 q.k,.string q.un,.string q.he,.slice q.pa q.ps.length q.pc],.bool true]) ∧ PtsA q.pa q.ps w' ∧ q.Blk (fun b => base ≤ b ∧ b < w'.heap.size)) ∨
 (putY a b = none ∧ e = .returned (.tuple #[.agg #[.string ⟨#[]⟩,.int .i64 0,.string ⟨#[]⟩,.string ⟨#[]⟩,.slice none 0 0],.bool false]))
theorem put_any (f g : FamD) (w : World) (hf : PtsA f.pa f.ps w) (hg : PtsA g.pa g.ps w) (sf : f.y.Sm) (sg : g.y.Sm) (hsz : f.ps.length + g.ps.length ≤ 1000) :
  Calls Tryz.prog 29 #[.agg #[.string f.nm,.int .i64 f.k,.string f.un,.string f.he,.slice f.pa f.ps.length f.pc],.agg #[.string g.nm,.int .i64 g.k,.string g.un,.string g.he,.slice g.pa g.ps.length g.pc]] w fun e w' => PutTold f.y g.y w.heap.size e w' ∧ Ext w w' := by
 obtain ⟨fn,fk,fu,fh,fpa,fpc,fps⟩ := f
 have spl : fps.length ≤ 1000 := sf.pl
 have sll : ∀ p ∈ fps,p.l.length ≤ 1000 := sf.ll
 have sfn : fn.size ≤ 1000 := sf.n
 have sfu : fu.size ≤ 1000 := sf.u
 have sfh : fh.size ≤ 1000 := sf.h
 dsimp only at hf hsz ⊢
 obtain ⟨F,hF⟩ : ∃ F,FamD.y ⟨fn,fk,fu,fh,fpa,fpc,fps⟩ = F := ⟨_,rfl⟩
 rw [hF]
 have hFp : Hid (F.ps = fps.map PtD.y) := Lib.hid (by rw [← hF]; rfl)
 have hFn : Hid (F.nm = fn ∧ F.k = fk ∧ F.un = fu ∧ F.he = fh) := Lib.hid (by rw [← hF]; exact ⟨rfl,rfl,rfl,rfl⟩)
 replace hF := Lib.hid hF
 clear sf
 obtain ⟨W,hW⟩ : ∃ W,((w.alloc (.cells #[.string fn,.int .i64 fk,.string fu,.string fh,.slice fpa fps.length fpc] 35)).alloc (.cells #[.string g.nm,.int .i64 g.k,.string g.un,.string g.he,.slice g.pa g.ps.length g.pc] 35)).alloc (.cells #[.string ⟨#[]⟩,.int .i64 0,.string ⟨#[]⟩,.string ⟨#[]⟩,.slice none 0 0] 35) = W := ⟨_,rfl⟩
 have xw : Ext w W := by rw [← hW]; exact (((Ext.refl w).alloc _).alloc _).alloc _
 have gA0 : FamIn w.heap.size fn fk fu fh (.slice fpa fps.length fpc) W := by rw [← hW]; exact FamIn.ext (heap_at2a _ _ _) ((Ext.refl _).alloc _)
 have gA1 : FamIn (w.heap.size + 1) g.nm g.k g.un g.he (.slice g.pa g.ps.length g.pc) W := by rw [← hW]; exact FamIn.ext (heap_at2b _ _ _) ((Ext.refl _).alloc _)
 have gA2 : FamIn (w.heap.size + 1 + 1) ⟨#[]⟩ 0 ⟨#[]⟩ ⟨#[]⟩ (.slice none 0 0) W := by
  rw [← hW]
  have := heap_last ((w.alloc (.cells #[.string fn,.int .i64 fk,.string fu,.string fh,.slice fpa fps.length fpc] 35)).alloc (.cells #[.string g.nm,.int .i64 g.k,.string g.un,.string g.he,.slice g.pa g.ps.length g.pc] 35)) (.cells #[.string ⟨#[]⟩,.int .i64 0,.string ⟨#[]⟩,.string ⟨#[]⟩,.slice none 0 0] 35)
  rw [heap_size_alloc,heap_size_alloc] at this
  exact this
 have hWz : w.heap.size + 3 ≤ W.heap.size := by rw [← hW]; simp
 replace hW := Lib.hid hW
 obtain ⟨N,hN⟩ : ∃ N,W.heap.size = N := ⟨_,rfl⟩
 rw [hN] at hWz
 have hNq : N ≤ W.heap.size := by omega
 obtain ⟨B,hB⟩ : ∃ B,w.heap.size = B := ⟨_,rfl⟩
 rw [hB] at gA0 gA1 gA2 hWz ⊢
 have hBw : w.heap.size ≤ B := by omega
 have GF := fun W (x : Ext w W) => famGood_any fn fk fu fh fpa fpc fps W (by omega) (hf.ext x) (by omega) (by omega) (by omega)
 rw [show goodFam fn fk fu fh fps = goodF F from by rw [← hF.out]; exact goodFam_y _ _ _ _ _] at GF
 have GG := fun W (x : Ext w W) => famGood_any g.nm g.k g.un g.he g.pa g.pc g.ps W (by have := sg.pl; omega) (hg.ext x) (by have := sg.n; have : g.nm.size ≤ 1000 := this; omega) (by have := sg.u; have : g.un.size ≤ 1000 := this; omega) (by have := sg.h; have : g.he.size ≤ 1000 := this; omega)
 rw [show goodFam g.nm g.k g.un g.he g.ps = goodF g.y from goodFam_y _ _ _ _ _] at GG
 have hmf : ∀ (fn : Fn) (first cap : Array Value) (w : World),(Instr.makeFunc fn first cap).run Tryz.prog w = .ok (.func fn first cap) w := fun _ _ _ _ => rfl
 have en := eq_is fn g.nm
 have bad : ¬ (fn = g.nm ∧ fk = g.k ∧ goodF F = true ∧ goodF g.y = true) → putY F g.y = none := fun h => if_neg (by rw [hFn.out.1,hFn.out.2.1]; exact h)
 have good : (fn = g.nm ∧ fk = g.k ∧ goodF F = true ∧ goodF g.y = true) → putY F g.y = srt (putH F g.y) := fun h => if_pos (by rw [hFn.out.1,hFn.out.2.1]; exact h)
 replace bad := Lib.hid bad
 replace good := Lib.hid good
 obtain ⟨gf,hgf⟩ : ∃ gf,goodF F = gf := ⟨_,rfl⟩
 obtain ⟨gg,hgg⟩ : ∃ gg,goodF g.y = gg := ⟨_,rfl⟩
 rw [hgf] at GF
 rw [hgg] at GG
 obtain ⟨c0,c1,c2,c3,c4⟩ := gA0.cells
 obtain ⟨d0,d1,d2,d3,d4⟩ := gA1.cells
 have hz2 : w.heap.size ≤ B + 1 + 1 := by omega
 go_enter Tryz.func29,Tryz.ntmps29
 by_cases hnm : fn = g.nm
 rotate_left
 ·rw [decide_eq_false hnm] at en
  have HB := Lib.hid (bad.out (fun h => hnm h.1))
  obtain ⟨e0,e1,e2,e3,e4⟩ := gA2.cells
  have fr := fun o => gA2.free o
  have XF := xw
  clear bad good hnm GF GG hf hg hgf hgg
  go_wp2_with fail
  try rw [hB]
  try rw [hW.out]
  try go_wp2_with fail
  refine bodyPost_ret (v := .tuple #[.agg #[.string ⟨#[]⟩,.int .i64 0,.string ⟨#[]⟩,.string ⟨#[]⟩,.slice none 0 0],.bool false]) ?_ rfl ⟨.inr ⟨HB.out,rfl⟩,XF⟩
  simp [results,Tryz.results29,go_sem,e0,e1,e2,e3,e4]
 rw [decide_eq_true hnm] at en
 replace hnm := Lib.hid hnm
 by_cases hkk : fk = g.k
 rotate_left
 ·have HB := Lib.hid (bad.out (fun h => hkk h.2.1))
  obtain ⟨e0,e1,e2,e3,e4⟩ := gA2.cells
  have fr := fun o => gA2.free o
  have hkb : (fk != g.k) = true := by simpa using hkk
  have XF := xw
  clear bad good hnm GF GG hf hg hgf hgg
  go_wp2_with fail
  try rw [hB]
  try rw [hW.out]
  try go_wp2_with fail
  refine bodyPost_ret (v := .tuple #[.agg #[.string ⟨#[]⟩,.int .i64 0,.string ⟨#[]⟩,.string ⟨#[]⟩,.slice none 0 0],.bool false]) ?_ rfl ⟨.inr ⟨HB.out,rfl⟩,XF⟩
  simp [results,Tryz.results29,go_sem,e0,e1,e2,e3,e4]
 have hkb : (fk != g.k) = false := by simp [hkk]
 replace hkk := Lib.hid hkk
 go_wp2_with fail
 try rw [hB]
 try rw [hW.out]
 (with_reducible refine (GF _ xw).mono ?_)
 rintro e w1 ⟨rfl,y1⟩
 replace gA0 := gA0.ext y1
 replace gA1 := gA1.ext y1
 replace gA2 := gA2.ext y1
 replace xw := xw.trans y1
 have hN1 : N ≤ w1.heap.size := by have := y1.size; omega
 clear c0 c1 c2 c3 c4 d0 d1 d2 d3 d4 hW GF y1 hNq
 obtain ⟨c0,c1,c2,c3,c4⟩ := gA0.cells
 obtain ⟨d0,d1,d2,d3,d4⟩ := gA1.cells
 cases gf
 ·have HB := Lib.hid (bad.out (fun h => by rw [hgf] at h; exact absurd h.2.2.1 (by decide)))
  obtain ⟨e0,e1,e2,e3,e4⟩ := gA2.cells
  have fr := fun o => gA2.free o
  have XF := xw.set5 (B + 1 + 1) hz2 (.string ⟨#[]⟩) (.int .i64 0) (.string ⟨#[]⟩) (.string ⟨#[]⟩) (.slice none 0 0)
  clear bad good GG hf hg hgf hgg
  go_wp2_with fail
  refine bodyPost_ret (v := .tuple #[.agg #[.string ⟨#[]⟩,.int .i64 0,.string ⟨#[]⟩,.string ⟨#[]⟩,.slice none 0 0],.bool false]) ?_ rfl ⟨.inr ⟨HB.out,rfl⟩,XF⟩
  simp [results,Tryz.results29,go_sem,e0,e1,e2,e3,e4]
 go_wp2_with fail
 (with_reducible refine (GG _ xw).mono ?_)
 rintro e w2 ⟨rfl,y1⟩
 replace gA0 := gA0.ext y1
 replace gA1 := gA1.ext y1
 replace gA2 := gA2.ext y1
 replace xw := xw.trans y1
 have hN2 : N ≤ w2.heap.size := by have := y1.size; omega
 clear c0 c1 c2 c3 c4 d0 d1 d2 d3 d4 GG y1 hN1
 obtain ⟨d0,d1,d2,d3,d4⟩ := gA1.cells
 cases gg
 ·have HB := Lib.hid (bad.out (fun h => by rw [hgg] at h; exact absurd h.2.2.2 (by decide)))
  obtain ⟨e0,e1,e2,e3,e4⟩ := gA2.cells
  have fr := fun o => gA2.free o
  have XF := xw.set5 (B + 1 + 1) hz2 (.string ⟨#[]⟩) (.int .i64 0) (.string ⟨#[]⟩) (.string ⟨#[]⟩) (.slice none 0 0)
  clear bad good hf hg hgf hgg
  go_wp2_with fail
  refine bodyPost_ret (v := .tuple #[.agg #[.string ⟨#[]⟩,.int .i64 0,.string ⟨#[]⟩,.string ⟨#[]⟩,.slice none 0 0],.bool false]) ?_ rfl ⟨.inr ⟨HB.out,rfl⟩,XF⟩
  simp [results,Tryz.results29,go_sem,e0,e1,e2,e3,e4]
 have HG := good.out ⟨hnm.out,hkk.out,hgf,hgg⟩
 replace HG := Lib.hid HG
 clear bad good hnm hkk hkb en hgf hgg
 have OW := ownFam_any g.nm g.k g.un g.he g.pa g.pc g.ps w2 sg.pl sg.ll (hg.ext xw)
 go_wp2_with fail
 (with_reducible refine OW.mono ?_)
 rintro e w3 ⟨⟨v,LG,rfl,hyG,hO⟩,y1⟩
 obtain ⟨av,cv,hv⟩ := hO.1.form
 subst hv
 have hOb := hO.blk
 replace gA0 := gA0.ext y1
 replace gA1 := gA1.ext y1
 replace gA2 := gA2.ext y1
 replace xw := xw.trans y1
 clear d0 d1 d2 d3 d4 OW
 have y2 := (Ext.refl w3).alloc (.cells #[.string g.nm,.int .i64 g.k,.string g.un,.string g.he,.slice av LG.length cv] 35)
 have g6 : FamIn w3.heap.size g.nm g.k g.un g.he (.slice av LG.length cv) (w3.alloc (.cells #[.string g.nm,.int .i64 g.k,.string g.un,.string g.he,.slice av LG.length cv] 35)) := heap_last _ _
 replace gA0 := gA0.ext y2
 replace gA1 := gA1.ext y2
 replace gA2 := gA2.ext y2
 replace xw := xw.trans y2
 have hO1 := (hO.ext y2).mono hN2
 have hN3 : N ≤ w3.heap.size := by have := y1.size; omega
 obtain ⟨A6,hA6⟩ : ∃ A6,w3.heap.size = A6 := ⟨_,rfl⟩
 have o61 : ∀ x,(Value.slice av LG.length cv).ownBlock = some x → A6 ≠ x := fun x hx => by have := (hO.1.lt x hx).2; omega
 have o62 : ∀ p ∈ LG,∀ x,p.a = some x → A6 ≠ x.block := fun p hp x hx => by have := (hOb.2 p hp x hx).2; omega
 obtain ⟨w4,hw4⟩ : ∃ w4,w3.alloc (.cells #[.string g.nm,.int .i64 g.k,.string g.un,.string g.he,.slice av LG.length cv] 35) = w4 := ⟨_,rfl⟩
 have hN4 : N ≤ w4.heap.size := by rw [← hw4,heap_size_alloc]; omega
 have hNA : N ≤ A6 := by omega
 rw [hw4] at gA0 gA1 gA2 xw g6 hO1
 rw [hA6] at g6
 obtain ⟨c0,c1,c2,c3,c4⟩ := gA0.cells
 go_wp2_with fail
 clear c0 c1 c2 c3 c4 hw4 hA6 hO hOb y1 y2 hN2 hN3
 go_loopw [42] (fun i wr => ∃ (k : Nat) (L : List PtD) (v : Value),i = .int .i64 k ∧ k ≤ fps.length ∧ Hid (L.map PtD.y = g.y.ps ++ (F.ps.take k).filter (fun p => !(likeIn p g.y.ps))) ∧ OwnP N v L wr ∧ FamIn A6 g.nm g.k g.un g.he v wr ∧
  (∀ x,v.ownBlock = some x → A6 ≠ x) ∧ (∀ p ∈ L,∀ x,p.a = some x → A6 ≠ x.block) ∧ FamIn B fn fk fu fh (.slice fpa fps.length fpc) wr ∧ FamIn (B + 1) g.nm g.k g.un g.he (.slice g.pa g.ps.length g.pc) wr ∧ FamIn (B + 1 + 1) ⟨#[]⟩ 0 ⟨#[]⟩ ⟨#[]⟩ (.slice none 0 0) wr ∧ Ext w wr ∧ N ≤ wr.heap.size) (fun i _ => fps.length - (intOf i).toNat)
 case atStart => exact ⟨0,LG,_,rfl,Nat.zero_le _,Lib.hid (by rw [hyG]; simp [FamD.y]),hO1,g6,o61,o62,gA0,gA1,gA2,xw,hN4⟩
 case round =>
  clear hO1 g6 o61 o62 gA0 gA1 gA2 xw hN4 hyG
  obtain ⟨k,L,v,rfl,hk,hQ,hO,g6,o61,o62,gA0,gA1,gA2,xw,hNr⟩ := hrel
  obtain ⟨av,cv,hv⟩ := hO.1.form
  subst hv
  have hLn : Hid (L.length ≤ 1000) := Lib.hid (by
   have h1 := congrArg List.length hQ.out
   have h2 := List.length_filter_le (fun p => !(likeIn p g.y.ps)) (F.ps.take k)
   have h3 : (F.ps.take k).length ≤ fps.length := by rw [List.length_take,hFp.out,List.length_map]; omega
   rw [List.length_map,List.length_append,FamD.y_len] at h1
   omega)
  by_cases hlt : k < fps.length
  ·obtain ⟨fb,fo,rfl,hfb,hP⟩ := hf.1 (by omega)
   have okp := (hf.2 _ (List.getElem_mem hlt)).ext xw
   have llp := sll _ (List.getElem_mem hlt)
   obtain ⟨p0,p1,p2,p3,p4,p5,p6,p7,p8⟩ := hP k hlt
   have htk : F.ps.take (k + 1) = F.ps.take k ++ [fps[k].y] := by
    rw [hFp.out,List.take_add_one,List.getElem?_map,List.getElem?_eq_getElem hlt]
    rfl
   obtain ⟨p,hp⟩ : ∃ p,fps[k] = p := ⟨_,rfl⟩
   rw [hp] at p0 p1 p2 p3 p4 p5 p6 p7 p8 okp llp htk
   replace p0 := (Ext.cell xw hfb).trans p0
   replace p1 := (Ext.cell xw hfb).trans p1
   replace p2 := (Ext.cell xw hfb).trans p2
   replace p3 := (Ext.cell xw hfb).trans p3
   replace p4 := (Ext.cell xw hfb).trans p4
   replace p5 := (Ext.cell xw hfb).trans p5
   replace p6 := (Ext.cell xw hfb).trans p6
   replace p7 := (Ext.cell xw hfb).trans p7
   replace p8 := (Ext.cell xw hfb).trans p8
   have y1 := (Ext.refl wr).alloc (.cells #[.slice p.a p.l.length p.c,.int .i64 p.r,.bool p.f,.int .i64 p.M,.int .i64 p.S,.int .i64 p.m,.int .i64 p.s,.bool p.t,.int .i64 p.T] 40)
   have gP : PtInD wr.heap.size p (wr.alloc (.cells #[.slice p.a p.l.length p.c,.int .i64 p.r,.bool p.f,.int .i64 p.M,.int .i64 p.S,.int .i64 p.m,.int .i64 p.s,.bool p.t,.int .i64 p.T] 40)) := heap_last _ _
   have AL := anyLater_any wr.heap.size p g.pa g.pc g.ps (wr.alloc (.cells #[.slice p.a p.l.length p.c,.int .i64 p.r,.bool p.f,.int .i64 p.M,.int .i64 p.S,.int .i64 p.m,.int .i64 p.s,.bool p.t,.int .i64 p.T] 40)) gP (okp.ext y1) (by have := sg.pl; omega) (hg.ext (xw.trans y1))
   rw [show g.ps.map PtD.y = g.y.ps from rfl] at AL
   obtain ⟨lk,hlk⟩ : ∃ lk,likeIn p.y g.y.ps = lk := ⟨_,rfl⟩
   rw [hlk] at AL
   obtain ⟨d0,d1,d2,d3,d4⟩ := (gA1.ext y1).cells
   replace htk := Lib.hid htk
   have i0 : (k : Int) < (fps.length : Int) := by omega
   clear hp hP
   go_wp2_with fail
   (with_reducible refine AL.mono ?_)
   rintro e wq ⟨rfl,y2⟩
   clear AL d0 d1 d2 d3 d4 p0 p1 p2 p3 p4 p5 p6 p7 p8
   have yy := y1.trans y2
   replace g6 := g6.ext yy
   replace gA0 := gA0.ext yy
   replace gA1 := gA1.ext yy
   replace gA2 := gA2.ext yy
   replace hO := hO.ext yy
   replace xw := xw.trans yy
   replace okp := okp.ext yy
   replace gP := gP.ext y2
   have hNq : N ≤ wq.heap.size := by have := yy.size; omega
   clear y1 y2 yy
   cases lk
   rotate_left
   ·have hQ3 : Hid (L.map PtD.y = g.y.ps ++ (F.ps.take (k + 1)).filter (fun p => !(likeIn p g.y.ps))) := Lib.hid (by
     rw [htk.out,List.filter_append,hQ.out]
     simp [hlk])
    clear hQ gP okp
    go_wp2_with fail
    go_roundw
    case rel => exact ⟨k + 1,L,_,rfl,hlt,hQ3,hO,g6,o61,o62,gA0,gA1,gA2,xw,hNq⟩
    case measure => simp only [intOf]; omega
   ·have hQ2 : Hid (∀ q : PtD,q.y = p.y → Hid ((L ++ [q]).map PtD.y = g.y.ps ++ (F.ps.take (k + 1)).filter (fun p => !(likeIn p g.y.ps)))) := Lib.hid (fun q hy => Lib.hid (by
     rw [htk.out,List.filter_append,List.map_append,hQ.out]
     simp [hlk,hy]))
    have PT := fun W (x : Ext wq W) => ownPoint_any p W (okp.ext x) llp
    unfold PtD.v ptV at PT
    have hA6q : A6 < wq.heap.size := (Array.getElem?_eq_some_iff.1 g6).1
    clear hQ htk hlk
    go_wp2_with fail
    refine wp_region_held_drew (S := fun _ => True) (by kernel_rfl) trivial (fun hH => ?_)
    refine tk 0 rfl (by kernel_rfl) (fun _ _ _ h => h) rfl (fun w9 hS9 => by go_simp; (try rfl)) hH ?_
    try simp only [Act.put,aT,aZ,aS]
    obtain ⟨w0,hw0⟩ : ∃ x,wq.drew = x := ⟨_,rfl⟩
    have xc : Ext wq w0 := by rw [← hw0]; exact (Ext.refl _).drew
    rw [hw0]
    clear hw0
    refine wR (rs := [1,2]) (by kernel_rfl) (by simp) (aR rfl (fun K hK => ?km502L1) (aR rfl (fun K hK => ?km502L2) aN))
    case km502L1 =>
     rw [if_pos (by rfl)]
     obtain ⟨e0,e1,e2,e3,e4⟩ := (g6.ext xc).cells
     go_simp
     refine hK.out _ _ trivial (fun _ => ?_)
     clear hK K e0 e1 e2 e3 e4
     try simp only [aT,aZ,aS]
     refine wR (rs := [2]) (by kernel_rfl) (by simp) (aR rfl (fun K hK => ?km503L2) aN)
     case km503L2 =>
      rw [if_pos (by rfl)]
      obtain ⟨p0,p1,p2,p3,p4,p5,p6,p7,p8⟩ := PtIn.cells (gP.ext xc)
      go_simp
      refine hK.out _ _ trivial (fun _ => ?_)
      clear hK K p0 p1 p2 p3 p4 p5 p6 p7 p8
      try simp only [aT,aZ,aS]
      refine wR (rs := [3]) (by kernel_rfl) (by simp) (aR rfl (fun K hK => ?km504C) aN)
      case km504C =>
       rw [if_pos (by rfl)]
       go_simp
       go_at_call 58
       (with_reducible refine (PT _ xc).mono ?_)
       rintro e wC ⟨⟨q,rfl,hy,hq,hqa⟩,xo⟩
       have hcz : wq.heap.size ≤ w0.heap.size := xc.size
       replace xc := xc.trans xo
       refine hK.out _ _ trivial (fun _ => ?_)
       clear hK K
       try simp only [aT,aZ,aS]
       refine wR (rs := [4]) (by kernel_rfl) (by simp) (aR rfl (fun K hK => ?km505BS) aN)
       case km505BS =>
        rw [if_pos (by rfl)]
        go_simp
        refine hK.out _ _ trivial (fun _ => ?_)
        clear hK K
        try simp only [aT,aZ,aS]
        obtain ⟨wS,hwS⟩ : ∃ x,wC.alloc (.cells #[.slice q.a q.l.length q.c,.int .i64 q.r,.bool q.f,.int .i64 q.M,.int .i64 q.S,.int .i64 q.m,.int .i64 q.s,.bool q.t,.int .i64 q.T] 40) = x := ⟨_,rfl⟩
        have xs : Ext wC wS := by rw [← hwS]; exact (Ext.refl _).alloc _
        have rs : PtsA (some ⟨wC.heap.size,0,none⟩) [q] wS := by rw [← hwS]; exact PtsA.one (heap_last _ _) (hq.ext ((Ext.refl _).alloc _))
        have hqz : wC.heap.size < wS.heap.size := by rw [← hwS]; simp
        rw [hwS]
        clear hwS
        replace hq := hq.ext xs
        replace xc := xc.trans xs
        refine wR (rs := [5]) (by kernel_rfl) (by simp) (aR rfl (fun K hK => ?km506A) aN)
        case km506A =>
         rw [if_pos (by rfl)]
         have hO3 := hO.ext xc
         have hlt3 := hO.1.lt
         obtain ⟨v',w4,ea,h1,h2,h3⟩ := append_structs tyPt (fun _ => rfl) ptC_one (by decide) wS 33 N _ L.length (fun i => L[i]?.getD PtD.zero) hO3.1 (Nat.le_trans hNq xc.size) ⟨wC.heap.size,0,none⟩ 1 1 (fun i => [q][i]?.getD PtD.zero) (PtsA.src rs) (by have := hLn.out; omega) (by have := hLn.out; omega) (.inr (by decide))
         refine Lib.wp_append_run _ _ _ _ _ rfl _ _ rfl rfl v' w4 ea (hK.out _ _ trivial (fun _ => ?_))
         clear hK K ea
         try simp only [aT,aZ,aS]
         have h1' : OwnR 9 40 PtD.cs N v' (L.length + 1) (joinF L.length (fun i => L[i]?.getD PtD.zero) (fun _ => q)) w4 := h1.congr (fun i hi => by
          unfold joinF
          by_cases q2 : i < L.length
          ·rw [if_pos q2,if_pos q2]
          ·rw [if_neg q2,if_neg q2,show i - L.length = 0 from by omega]; rfl)
         have hb3 : PtAt N _ wS q := ⟨hq,fun x hx => by have := (hqa x hx).1; omega,fun x hx => by have := (hqa x hx).2; omega,fun x hx g hg => by have := (hqa x hx).1; have := (hlt3 g hg).2; omega⟩
         have hO4 := hO3.push hb3 h1' h2 h3
         have o61' : ∀ x,v'.ownBlock = some x → A6 ≠ x := fun x hx => by
          rcases h3 with h3 | h3
          ·rw [h3] at hx; exact o61 x hx
          ·rw [h3] at hx; injection hx with hx; have := xc.size; omega
         have o62' : ∀ p' ∈ L ++ [q],∀ x,p'.a = some x → A6 ≠ x.block := fun p' hp' x hx => by
          rcases List.mem_append.1 hp' with hp' | hp'
          ·exact o62 p' hp' x hx
          ·rw [List.mem_singleton] at hp'
           rw [hp'] at hx
           have := (hqa x hx).1
           omega
         have hb4 : ∀ x,(Value.slice av L.length cv).ownBlock = some x → N ≤ x := fun x hx => (hlt3 x hx).1
         have x8 : Ext w w4 := grown_ext' (xw.trans xc) h2 (Nat.le_refl _) (fun x hx => by have := hb4 x hx; omega)
         have hN4 : N ≤ w4.heap.size := by have := h2.size; have := xc.size; omega
         replace gA0 := (gA0.ext xc).grown h2 (fun x hx => by have := hb4 x hx; omega)
         replace gA1 := (gA1.ext xc).grown h2 (fun x hx => by have := hb4 x hx; omega)
         replace gA2 := (gA2.ext xc).grown h2 (fun x hx => by have := hb4 x hx; omega)
         replace g6 := (g6.ext xc).grown h2 (fun x hx => o61 x hx)
         have hQ3 := hQ2.out q hy
         clear h1 h1' h2 h3 hO3 hO hb3 hb4 hQ2 hlt3 hLn o61 o62 gP rs hq hqa hy xc xw
         obtain ⟨a5,c5,hv5⟩ := hO4.1.form
         subst hv5
         obtain ⟨L',hL'⟩ : ∃ L',L ++ [q] = L' := ⟨_,rfl⟩
         rw [hL'] at hQ3 hO4 o62' o61' ⊢
         clear hL'
         refine tk 6 rfl (by kernel_rfl) (fun _ _ _ h => h) rfl (fun w9 hS9 => by go_simp; (try rfl)) hH ?_
         try simp only [Act.put,aT,aZ,aS]
         refine wR (rs := [7]) (by kernel_rfl) (by simp) (aR rfl (fun K hK => ?km508ST) aN)
         case km508ST =>
          rw [if_pos (by rfl)]
          obtain ⟨e0,e1,e2,e3,e4⟩ := g6.cells
          have fr := fun o => g6.free o
          go_simp
          refine hK.out _ _ trivial (fun _ => ?_)
          clear hK K fr e0 e1 e2 e3 e4
          try simp only [aT,aZ,aS]
          have g6' := g6.set4 (.slice a5 L'.length c5)
          replace gA0 := gA0.setC A6 4 (.slice a5 L'.length c5) (by omega)
          replace gA1 := gA1.setC A6 4 (.slice a5 L'.length c5) (by omega)
          replace gA2 := gA2.setC A6 4 (.slice a5 L'.length c5) (by omega)
          have hO5 := hO4.setOff A6 4 (.slice a5 L'.length c5) o61' o62'
          have x9 := x8.setC A6 4 (.slice a5 L'.length c5) (by omega)
          have hN9 : N ≤ (w4.setCell ⟨A6,4,none⟩ (.slice a5 L'.length c5)).heap.size := by rw [World.size_setCell]; exact hN4
          have o61 := o61'
          have o62 := o62'
          refine wpAnyH_done (by kernel_rfl) ?_ _
          go_wp2_with fail
          go_roundw
          case rel => exact ⟨k + 1,_,_,rfl,hlt,hQ3,hO5,g6',o61,o62,gA0,gA1,gA2,x9,hN9⟩
          case measure => simp only [intOf]; omega
    case km502L2 =>
     rw [if_pos (by rfl)]
     obtain ⟨p0,p1,p2,p3,p4,p5,p6,p7,p8⟩ := PtIn.cells (gP.ext xc)
     go_simp
     refine hK.out _ _ trivial (fun _ => ?_)
     clear hK K p0 p1 p2 p3 p4 p5 p6 p7 p8
     try simp only [aT,aZ,aS]
     refine wR (rs := [1,3]) (by kernel_rfl) (by simp) (aR rfl (fun K hK => ?km509L1) (aR rfl (fun K hK => ?km509C) aN))
     case km509L1 =>
      rw [if_pos (by rfl)]
      obtain ⟨e0,e1,e2,e3,e4⟩ := (g6.ext xc).cells
      go_simp
      refine hK.out _ _ trivial (fun _ => ?_)
      clear hK K e0 e1 e2 e3 e4
      try simp only [aT,aZ,aS]
      refine wR (rs := [3]) (by kernel_rfl) (by simp) (aR rfl (fun K hK => ?km510C) aN)
      case km510C =>
       rw [if_pos (by rfl)]
       go_simp
       go_at_call 58
       (with_reducible refine (PT _ xc).mono ?_)
       rintro e wC ⟨⟨q,rfl,hy,hq,hqa⟩,xo⟩
       have hcz : wq.heap.size ≤ w0.heap.size := xc.size
       replace xc := xc.trans xo
       refine hK.out _ _ trivial (fun _ => ?_)
       clear hK K
       try simp only [aT,aZ,aS]
       refine wR (rs := [4]) (by kernel_rfl) (by simp) (aR rfl (fun K hK => ?km511BS) aN)
       case km511BS =>
        rw [if_pos (by rfl)]
        go_simp
        refine hK.out _ _ trivial (fun _ => ?_)
        clear hK K
        try simp only [aT,aZ,aS]
        obtain ⟨wS,hwS⟩ : ∃ x,wC.alloc (.cells #[.slice q.a q.l.length q.c,.int .i64 q.r,.bool q.f,.int .i64 q.M,.int .i64 q.S,.int .i64 q.m,.int .i64 q.s,.bool q.t,.int .i64 q.T] 40) = x := ⟨_,rfl⟩
        have xs : Ext wC wS := by rw [← hwS]; exact (Ext.refl _).alloc _
        have rs : PtsA (some ⟨wC.heap.size,0,none⟩) [q] wS := by rw [← hwS]; exact PtsA.one (heap_last _ _) (hq.ext ((Ext.refl _).alloc _))
        have hqz : wC.heap.size < wS.heap.size := by rw [← hwS]; simp
        rw [hwS]
        clear hwS
        replace hq := hq.ext xs
        replace xc := xc.trans xs
        refine wR (rs := [5]) (by kernel_rfl) (by simp) (aR rfl (fun K hK => ?km512A) aN)
        case km512A =>
         rw [if_pos (by rfl)]
         have hO3 := hO.ext xc
         have hlt3 := hO.1.lt
         obtain ⟨v',w4,ea,h1,h2,h3⟩ := append_structs tyPt (fun _ => rfl) ptC_one (by decide) wS 33 N _ L.length (fun i => L[i]?.getD PtD.zero) hO3.1 (Nat.le_trans hNq xc.size) ⟨wC.heap.size,0,none⟩ 1 1 (fun i => [q][i]?.getD PtD.zero) (PtsA.src rs) (by have := hLn.out; omega) (by have := hLn.out; omega) (.inr (by decide))
         refine Lib.wp_append_run _ _ _ _ _ rfl _ _ rfl rfl v' w4 ea (hK.out _ _ trivial (fun _ => ?_))
         clear hK K ea
         try simp only [aT,aZ,aS]
         have h1' : OwnR 9 40 PtD.cs N v' (L.length + 1) (joinF L.length (fun i => L[i]?.getD PtD.zero) (fun _ => q)) w4 := h1.congr (fun i hi => by
          unfold joinF
          by_cases q2 : i < L.length
          ·rw [if_pos q2,if_pos q2]
          ·rw [if_neg q2,if_neg q2,show i - L.length = 0 from by omega]; rfl)
         have hb3 : PtAt N _ wS q := ⟨hq,fun x hx => by have := (hqa x hx).1; omega,fun x hx => by have := (hqa x hx).2; omega,fun x hx g hg => by have := (hqa x hx).1; have := (hlt3 g hg).2; omega⟩
         have hO4 := hO3.push hb3 h1' h2 h3
         have o61' : ∀ x,v'.ownBlock = some x → A6 ≠ x := fun x hx => by
          rcases h3 with h3 | h3
          ·rw [h3] at hx; exact o61 x hx
          ·rw [h3] at hx; injection hx with hx; have := xc.size; omega
         have o62' : ∀ p' ∈ L ++ [q],∀ x,p'.a = some x → A6 ≠ x.block := fun p' hp' x hx => by
          rcases List.mem_append.1 hp' with hp' | hp'
          ·exact o62 p' hp' x hx
          ·rw [List.mem_singleton] at hp'
           rw [hp'] at hx
           have := (hqa x hx).1
           omega
         have hb4 : ∀ x,(Value.slice av L.length cv).ownBlock = some x → N ≤ x := fun x hx => (hlt3 x hx).1
         have x8 : Ext w w4 := grown_ext' (xw.trans xc) h2 (Nat.le_refl _) (fun x hx => by have := hb4 x hx; omega)
         have hN4 : N ≤ w4.heap.size := by have := h2.size; have := xc.size; omega
         replace gA0 := (gA0.ext xc).grown h2 (fun x hx => by have := hb4 x hx; omega)
         replace gA1 := (gA1.ext xc).grown h2 (fun x hx => by have := hb4 x hx; omega)
         replace gA2 := (gA2.ext xc).grown h2 (fun x hx => by have := hb4 x hx; omega)
         replace g6 := (g6.ext xc).grown h2 (fun x hx => o61 x hx)
         have hQ3 := hQ2.out q hy
         clear h1 h1' h2 h3 hO3 hO hb3 hb4 hQ2 hlt3 hLn o61 o62 gP rs hq hqa hy xc xw
         obtain ⟨a5,c5,hv5⟩ := hO4.1.form
         subst hv5
         obtain ⟨L',hL'⟩ : ∃ L',L ++ [q] = L' := ⟨_,rfl⟩
         rw [hL'] at hQ3 hO4 o62' o61' ⊢
         clear hL'
         refine tk 6 rfl (by kernel_rfl) (fun _ _ _ h => h) rfl (fun w9 hS9 => by go_simp; (try rfl)) hH ?_
         try simp only [Act.put,aT,aZ,aS]
         refine wR (rs := [7]) (by kernel_rfl) (by simp) (aR rfl (fun K hK => ?km514ST) aN)
         case km514ST =>
          rw [if_pos (by rfl)]
          obtain ⟨e0,e1,e2,e3,e4⟩ := g6.cells
          have fr := fun o => g6.free o
          go_simp
          refine hK.out _ _ trivial (fun _ => ?_)
          clear hK K fr e0 e1 e2 e3 e4
          try simp only [aT,aZ,aS]
          have g6' := g6.set4 (.slice a5 L'.length c5)
          replace gA0 := gA0.setC A6 4 (.slice a5 L'.length c5) (by omega)
          replace gA1 := gA1.setC A6 4 (.slice a5 L'.length c5) (by omega)
          replace gA2 := gA2.setC A6 4 (.slice a5 L'.length c5) (by omega)
          have hO5 := hO4.setOff A6 4 (.slice a5 L'.length c5) o61' o62'
          have x9 := x8.setC A6 4 (.slice a5 L'.length c5) (by omega)
          have hN9 : N ≤ (w4.setCell ⟨A6,4,none⟩ (.slice a5 L'.length c5)).heap.size := by rw [World.size_setCell]; exact hN4
          have o61 := o61'
          have o62 := o62'
          refine wpAnyH_done (by kernel_rfl) ?_ _
          go_wp2_with fail
          go_roundw
          case rel => exact ⟨k + 1,_,_,rfl,hlt,hQ3,hO5,g6',o61,o62,gA0,gA1,gA2,x9,hN9⟩
          case measure => simp only [intOf]; omega
     case km509C =>
      rw [if_pos (by rfl)]
      go_simp
      go_at_call 58
      (with_reducible refine (PT _ xc).mono ?_)
      rintro e wC ⟨⟨q,rfl,hy,hq,hqa⟩,xo⟩
      have hcz : wq.heap.size ≤ w0.heap.size := xc.size
      replace xc := xc.trans xo
      refine hK.out _ _ trivial (fun _ => ?_)
      clear hK K
      try simp only [aT,aZ,aS]
      refine wR (rs := [1,4]) (by kernel_rfl) (by simp) (aR rfl (fun K hK => ?km515L1) (aR rfl (fun K hK => ?km515BS) aN))
      case km515L1 =>
       rw [if_pos (by rfl)]
       obtain ⟨e0,e1,e2,e3,e4⟩ := (g6.ext xc).cells
       go_simp
       refine hK.out _ _ trivial (fun _ => ?_)
       clear hK K e0 e1 e2 e3 e4
       try simp only [aT,aZ,aS]
       refine wR (rs := [4]) (by kernel_rfl) (by simp) (aR rfl (fun K hK => ?km516BS) aN)
       case km516BS =>
        rw [if_pos (by rfl)]
        go_simp
        refine hK.out _ _ trivial (fun _ => ?_)
        clear hK K
        try simp only [aT,aZ,aS]
        obtain ⟨wS,hwS⟩ : ∃ x,wC.alloc (.cells #[.slice q.a q.l.length q.c,.int .i64 q.r,.bool q.f,.int .i64 q.M,.int .i64 q.S,.int .i64 q.m,.int .i64 q.s,.bool q.t,.int .i64 q.T] 40) = x := ⟨_,rfl⟩
        have xs : Ext wC wS := by rw [← hwS]; exact (Ext.refl _).alloc _
        have rs : PtsA (some ⟨wC.heap.size,0,none⟩) [q] wS := by rw [← hwS]; exact PtsA.one (heap_last _ _) (hq.ext ((Ext.refl _).alloc _))
        have hqz : wC.heap.size < wS.heap.size := by rw [← hwS]; simp
        rw [hwS]
        clear hwS
        replace hq := hq.ext xs
        replace xc := xc.trans xs
        refine wR (rs := [5]) (by kernel_rfl) (by simp) (aR rfl (fun K hK => ?km517A) aN)
        case km517A =>
         rw [if_pos (by rfl)]
         have hO3 := hO.ext xc
         have hlt3 := hO.1.lt
         obtain ⟨v',w4,ea,h1,h2,h3⟩ := append_structs tyPt (fun _ => rfl) ptC_one (by decide) wS 33 N _ L.length (fun i => L[i]?.getD PtD.zero) hO3.1 (Nat.le_trans hNq xc.size) ⟨wC.heap.size,0,none⟩ 1 1 (fun i => [q][i]?.getD PtD.zero) (PtsA.src rs) (by have := hLn.out; omega) (by have := hLn.out; omega) (.inr (by decide))
         refine Lib.wp_append_run _ _ _ _ _ rfl _ _ rfl rfl v' w4 ea (hK.out _ _ trivial (fun _ => ?_))
         clear hK K ea
         try simp only [aT,aZ,aS]
         have h1' : OwnR 9 40 PtD.cs N v' (L.length + 1) (joinF L.length (fun i => L[i]?.getD PtD.zero) (fun _ => q)) w4 := h1.congr (fun i hi => by
          unfold joinF
          by_cases q2 : i < L.length
          ·rw [if_pos q2,if_pos q2]
          ·rw [if_neg q2,if_neg q2,show i - L.length = 0 from by omega]; rfl)
         have hb3 : PtAt N _ wS q := ⟨hq,fun x hx => by have := (hqa x hx).1; omega,fun x hx => by have := (hqa x hx).2; omega,fun x hx g hg => by have := (hqa x hx).1; have := (hlt3 g hg).2; omega⟩
         have hO4 := hO3.push hb3 h1' h2 h3
         have o61' : ∀ x,v'.ownBlock = some x → A6 ≠ x := fun x hx => by
          rcases h3 with h3 | h3
          ·rw [h3] at hx; exact o61 x hx
          ·rw [h3] at hx; injection hx with hx; have := xc.size; omega
         have o62' : ∀ p' ∈ L ++ [q],∀ x,p'.a = some x → A6 ≠ x.block := fun p' hp' x hx => by
          rcases List.mem_append.1 hp' with hp' | hp'
          ·exact o62 p' hp' x hx
          ·rw [List.mem_singleton] at hp'
           rw [hp'] at hx
           have := (hqa x hx).1
           omega
         have hb4 : ∀ x,(Value.slice av L.length cv).ownBlock = some x → N ≤ x := fun x hx => (hlt3 x hx).1
         have x8 : Ext w w4 := grown_ext' (xw.trans xc) h2 (Nat.le_refl _) (fun x hx => by have := hb4 x hx; omega)
         have hN4 : N ≤ w4.heap.size := by have := h2.size; have := xc.size; omega
         replace gA0 := (gA0.ext xc).grown h2 (fun x hx => by have := hb4 x hx; omega)
         replace gA1 := (gA1.ext xc).grown h2 (fun x hx => by have := hb4 x hx; omega)
         replace gA2 := (gA2.ext xc).grown h2 (fun x hx => by have := hb4 x hx; omega)
         replace g6 := (g6.ext xc).grown h2 (fun x hx => o61 x hx)
         have hQ3 := hQ2.out q hy
         clear h1 h1' h2 h3 hO3 hO hb3 hb4 hQ2 hlt3 hLn o61 o62 gP rs hq hqa hy xc xw
         obtain ⟨a5,c5,hv5⟩ := hO4.1.form
         subst hv5
         obtain ⟨L',hL'⟩ : ∃ L',L ++ [q] = L' := ⟨_,rfl⟩
         rw [hL'] at hQ3 hO4 o62' o61' ⊢
         clear hL'
         refine tk 6 rfl (by kernel_rfl) (fun _ _ _ h => h) rfl (fun w9 hS9 => by go_simp; (try rfl)) hH ?_
         try simp only [Act.put,aT,aZ,aS]
         refine wR (rs := [7]) (by kernel_rfl) (by simp) (aR rfl (fun K hK => ?km519ST) aN)
         case km519ST =>
          rw [if_pos (by rfl)]
          obtain ⟨e0,e1,e2,e3,e4⟩ := g6.cells
          have fr := fun o => g6.free o
          go_simp
          refine hK.out _ _ trivial (fun _ => ?_)
          clear hK K fr e0 e1 e2 e3 e4
          try simp only [aT,aZ,aS]
          have g6' := g6.set4 (.slice a5 L'.length c5)
          replace gA0 := gA0.setC A6 4 (.slice a5 L'.length c5) (by omega)
          replace gA1 := gA1.setC A6 4 (.slice a5 L'.length c5) (by omega)
          replace gA2 := gA2.setC A6 4 (.slice a5 L'.length c5) (by omega)
          have hO5 := hO4.setOff A6 4 (.slice a5 L'.length c5) o61' o62'
          have x9 := x8.setC A6 4 (.slice a5 L'.length c5) (by omega)
          have hN9 : N ≤ (w4.setCell ⟨A6,4,none⟩ (.slice a5 L'.length c5)).heap.size := by rw [World.size_setCell]; exact hN4
          have o61 := o61'
          have o62 := o62'
          refine wpAnyH_done (by kernel_rfl) ?_ _
          go_wp2_with fail
          go_roundw
          case rel => exact ⟨k + 1,_,_,rfl,hlt,hQ3,hO5,g6',o61,o62,gA0,gA1,gA2,x9,hN9⟩
          case measure => simp only [intOf]; omega
      case km515BS =>
       rw [if_pos (by rfl)]
       go_simp
       refine hK.out _ _ trivial (fun _ => ?_)
       clear hK K
       try simp only [aT,aZ,aS]
       obtain ⟨wS,hwS⟩ : ∃ x,wC.alloc (.cells #[.slice q.a q.l.length q.c,.int .i64 q.r,.bool q.f,.int .i64 q.M,.int .i64 q.S,.int .i64 q.m,.int .i64 q.s,.bool q.t,.int .i64 q.T] 40) = x := ⟨_,rfl⟩
       have xs : Ext wC wS := by rw [← hwS]; exact (Ext.refl _).alloc _
       have rs : PtsA (some ⟨wC.heap.size,0,none⟩) [q] wS := by rw [← hwS]; exact PtsA.one (heap_last _ _) (hq.ext ((Ext.refl _).alloc _))
       have hqz : wC.heap.size < wS.heap.size := by rw [← hwS]; simp
       rw [hwS]
       clear hwS
       replace hq := hq.ext xs
       replace xc := xc.trans xs
       refine wR (rs := [1]) (by kernel_rfl) (by simp) (aR rfl (fun K hK => ?km520L1) aN)
       case km520L1 =>
        rw [if_pos (by rfl)]
        obtain ⟨e0,e1,e2,e3,e4⟩ := (g6.ext xc).cells
        go_simp
        refine hK.out _ _ trivial (fun _ => ?_)
        clear hK K e0 e1 e2 e3 e4
        try simp only [aT,aZ,aS]
        refine wR (rs := [5]) (by kernel_rfl) (by simp) (aR rfl (fun K hK => ?km521A) aN)
        case km521A =>
         rw [if_pos (by rfl)]
         have hO3 := hO.ext xc
         have hlt3 := hO.1.lt
         obtain ⟨v',w4,ea,h1,h2,h3⟩ := append_structs tyPt (fun _ => rfl) ptC_one (by decide) wS 33 N _ L.length (fun i => L[i]?.getD PtD.zero) hO3.1 (Nat.le_trans hNq xc.size) ⟨wC.heap.size,0,none⟩ 1 1 (fun i => [q][i]?.getD PtD.zero) (PtsA.src rs) (by have := hLn.out; omega) (by have := hLn.out; omega) (.inr (by decide))
         refine Lib.wp_append_run _ _ _ _ _ rfl _ _ rfl rfl v' w4 ea (hK.out _ _ trivial (fun _ => ?_))
         clear hK K ea
         try simp only [aT,aZ,aS]
         have h1' : OwnR 9 40 PtD.cs N v' (L.length + 1) (joinF L.length (fun i => L[i]?.getD PtD.zero) (fun _ => q)) w4 := h1.congr (fun i hi => by
          unfold joinF
          by_cases q2 : i < L.length
          ·rw [if_pos q2,if_pos q2]
          ·rw [if_neg q2,if_neg q2,show i - L.length = 0 from by omega]; rfl)
         have hb3 : PtAt N _ wS q := ⟨hq,fun x hx => by have := (hqa x hx).1; omega,fun x hx => by have := (hqa x hx).2; omega,fun x hx g hg => by have := (hqa x hx).1; have := (hlt3 g hg).2; omega⟩
         have hO4 := hO3.push hb3 h1' h2 h3
         have o61' : ∀ x,v'.ownBlock = some x → A6 ≠ x := fun x hx => by
          rcases h3 with h3 | h3
          ·rw [h3] at hx; exact o61 x hx
          ·rw [h3] at hx; injection hx with hx; have := xc.size; omega
         have o62' : ∀ p' ∈ L ++ [q],∀ x,p'.a = some x → A6 ≠ x.block := fun p' hp' x hx => by
          rcases List.mem_append.1 hp' with hp' | hp'
          ·exact o62 p' hp' x hx
          ·rw [List.mem_singleton] at hp'
           rw [hp'] at hx
           have := (hqa x hx).1
           omega
         have hb4 : ∀ x,(Value.slice av L.length cv).ownBlock = some x → N ≤ x := fun x hx => (hlt3 x hx).1
         have x8 : Ext w w4 := grown_ext' (xw.trans xc) h2 (Nat.le_refl _) (fun x hx => by have := hb4 x hx; omega)
         have hN4 : N ≤ w4.heap.size := by have := h2.size; have := xc.size; omega
         replace gA0 := (gA0.ext xc).grown h2 (fun x hx => by have := hb4 x hx; omega)
         replace gA1 := (gA1.ext xc).grown h2 (fun x hx => by have := hb4 x hx; omega)
         replace gA2 := (gA2.ext xc).grown h2 (fun x hx => by have := hb4 x hx; omega)
         replace g6 := (g6.ext xc).grown h2 (fun x hx => o61 x hx)
         have hQ3 := hQ2.out q hy
         clear h1 h1' h2 h3 hO3 hO hb3 hb4 hQ2 hlt3 hLn o61 o62 gP rs hq hqa hy xc xw
         obtain ⟨a5,c5,hv5⟩ := hO4.1.form
         subst hv5
         obtain ⟨L',hL'⟩ : ∃ L',L ++ [q] = L' := ⟨_,rfl⟩
         rw [hL'] at hQ3 hO4 o62' o61' ⊢
         clear hL'
         refine tk 6 rfl (by kernel_rfl) (fun _ _ _ h => h) rfl (fun w9 hS9 => by go_simp; (try rfl)) hH ?_
         try simp only [Act.put,aT,aZ,aS]
         refine wR (rs := [7]) (by kernel_rfl) (by simp) (aR rfl (fun K hK => ?km523ST) aN)
         case km523ST =>
          rw [if_pos (by rfl)]
          obtain ⟨e0,e1,e2,e3,e4⟩ := g6.cells
          have fr := fun o => g6.free o
          go_simp
          refine hK.out _ _ trivial (fun _ => ?_)
          clear hK K fr e0 e1 e2 e3 e4
          try simp only [aT,aZ,aS]
          have g6' := g6.set4 (.slice a5 L'.length c5)
          replace gA0 := gA0.setC A6 4 (.slice a5 L'.length c5) (by omega)
          replace gA1 := gA1.setC A6 4 (.slice a5 L'.length c5) (by omega)
          replace gA2 := gA2.setC A6 4 (.slice a5 L'.length c5) (by omega)
          have hO5 := hO4.setOff A6 4 (.slice a5 L'.length c5) o61' o62'
          have x9 := x8.setC A6 4 (.slice a5 L'.length c5) (by omega)
          have hN9 : N ≤ (w4.setCell ⟨A6,4,none⟩ (.slice a5 L'.length c5)).heap.size := by rw [World.size_setCell]; exact hN4
          have o61 := o61'
          have o62 := o62'
          refine wpAnyH_done (by kernel_rfl) ?_ _
          go_wp2_with fail
          go_roundw
          case rel => exact ⟨k + 1,_,_,rfl,hlt,hQ3,hO5,g6',o61,o62,gA0,gA1,gA2,x9,hN9⟩
          case measure => simp only [intOf]; omega
  ·obtain rfl : k = fps.length := by omega
   rw [show F.ps.take fps.length = F.ps from List.take_of_length_le (by rw [hFp.out,List.length_map]; exact Nat.le_refl _)] at hQ
   have hLl : ∀ p ∈ L,p.l.length ≤ 1000 := fun p hp => by
    have h1 : p.y ∈ L.map PtD.y := List.mem_map_of_mem hp
    rw [hQ.out] at h1
    rcases List.mem_append.1 h1 with h1 | h1
    ·exact sg.l _ h1
    ·have h2 := (List.mem_filter.1 h1).1
     rw [hFp.out] at h2
     obtain ⟨z,hz,e⟩ := List.mem_map.1 h2
     have := sll z hz
     rw [show p.l = z.l from (congrArg (fun x : PtY => x.1.l) e).symm]
     exact this
   obtain ⟨c0,c1,c2,c3,c4⟩ := gA0.cells
   obtain ⟨e0,e1,e2,e3,e4⟩ := g6.cells
   have fr := fun o => g6.free o
   have i0 : ¬ (fps.length : Int) < (fps.length : Int) := by omega
   obtain ⟨bu,hbu⟩ : ∃ b,g.un.toList.isEmpty = b := ⟨_,rfl⟩
   obtain ⟨bh,hbh⟩ : ∃ b,g.he.toList.isEmpty = b := ⟨_,rfl⟩
   have hput : Hid (∀ un he,un = (if bu = true then fu else g.un) → he = (if bh = true then fh else g.he) → FamD.y ⟨g.nm,g.k,un,he,av,cv,L⟩ = putH F g.y) := Lib.hid (fun un he h1 h2 => by
    unfold putH FamD.y
    rw [hFn.out.2.2.1,hFn.out.2.2.2,h1,h2,← hbu,← hbh]
    rw [hQ.out]
    rfl)
   have hzA : B + 1 + 1 ≠ A6 := by omega
   have hzB : B ≠ A6 := by omega
   have hwA : w.heap.size ≤ A6 := by omega
   have hzN : B + 1 + 1 < wr.heap.size := by omega
   clear hQ hk hlt hf hg sll hFp
   cases bu <;> cases bh
   ·have g6c := g6
    have hOc := hO
    have xwc := xw
    have gA2c := gA2
    obtain ⟨W5,hW5⟩ : ∃ W5,wr = W5 := ⟨_,rfl⟩
    have hzW : B + 1 + 1 < W5.heap.size := by rw [← hW5]; (try simp only [World.size_setCell]); exact hzN
    rw [hW5] at hOc xwc gA2c
    obtain ⟨a',c',hv',hPts⟩ := hOc.pts
    injection hv' with q1 q2 q3
    subst q1 q3
    clear q2
    have SO := famSort_any g.nm g.k g.un g.he av cv L W5 hLn.out hLl hPts
    have hpy := hput.out g.un g.he rfl rfl
    replace hpy := Lib.hid hpy
    replace hW5 := Lib.hid hW5
    clear g6 g6c hO hOc gA0 gA1 gA2 hput
    go_wp2_with fail
    try rw [hW5.out]
    (with_reducible refine SO.mono ?_)
    rintro e w6 ⟨hs,y6⟩
    clear SO hPts
    have gA3 := gA2c.ext y6
    obtain ⟨d0,d1,d2,d3,d4⟩ := gA3.cells
    have fr3 := fun o => gA3.free o
    rcases SortTold.srt (f := ⟨g.nm,g.k,g.un,g.he,av,cv,L⟩) hs with ⟨a7,c7,L7,hsr,rfl,hOP,_⟩ | ⟨hsr,rfl⟩
    ·clear hs gA3
     rw [hpy.out,← HG.out] at hsr
     replace hsr := Lib.hid hsr
     have XF := (xwc.trans y6).set5 (B + 1 + 1) hz2 (.string g.nm) (.int .i64 g.k) (.string g.un) (.string g.he) (.slice a7 L7.length c7)
     have hOP5 := hOP.set5 (B + 1 + 1) hzW (.string g.nm) (.int .i64 g.k) (.string g.un) (.string g.he) (.slice a7 L7.length c7)
     have hB7 := hOP5.blk
     obtain ⟨a8,c8,hv8,hP8⟩ := hOP5.pts
     injection hv8 with q1 q2 q3
     subst q1 q3
     have hwz := xwc.size
     clear hOP hOP5 q2
     go_wp2_with fail
     refine bodyPost_ret (v := .tuple #[.agg #[.string g.nm,.int .i64 g.k,.string g.un,.string g.he,.slice a7 L7.length c7],.bool true]) ?_ rfl ⟨.inl ⟨⟨g.nm,g.k,g.un,g.he,a7,c7,L7⟩,hsr.out,rfl,hP8,⟨fun x hx => ?_,fun p hp x hx => ?_⟩⟩,XF⟩
     ·simp [results,Tryz.results29,go_sem,d0,d1,d2,d3,d4]
     ·have := hB7.1 x hx; omega
     ·have := hB7.2 p hp x hx; omega
    ·clear hs gA3
     rw [hpy.out,← HG.out] at hsr
     replace hsr := Lib.hid hsr
     have XF := (xwc.trans y6).set5 (B + 1 + 1) hz2 (.string ⟨#[]⟩) (.int .i64 0) (.string ⟨#[]⟩) (.string ⟨#[]⟩) (.slice none 0 0)
     go_wp2_with fail
     refine bodyPost_ret (v := .tuple #[.agg #[.string ⟨#[]⟩,.int .i64 0,.string ⟨#[]⟩,.string ⟨#[]⟩,.slice none 0 0],.bool false]) ?_ rfl ⟨.inr ⟨hsr.out,rfl⟩,XF⟩
     simp [results,Tryz.results29,go_sem,d0,d1,d2,d3,d4]
   ·have g6c := g6
    have hOc := hO
    have xwc := xw
    have gA2c := gA2
    replace g6c := g6c.set3 fh
    replace hOc := hOc.setOff A6 3 (.string fh) o61 o62
    replace xwc := xwc.setC A6 3 (.string fh) hwA
    replace gA2c := gA2c.setC A6 3 (.string fh) hzA
    obtain ⟨k0,k1,k2,k3,k4⟩ := g6c.cells
    obtain ⟨W5,hW5⟩ : ∃ W5,(wr.setCell ⟨A6,3,none⟩ (.string fh)) = W5 := ⟨_,rfl⟩
    have hzW : B + 1 + 1 < W5.heap.size := by rw [← hW5]; (try simp only [World.size_setCell]); exact hzN
    rw [hW5] at hOc xwc gA2c
    obtain ⟨a',c',hv',hPts⟩ := hOc.pts
    injection hv' with q1 q2 q3
    subst q1 q3
    clear q2
    have SO := famSort_any g.nm g.k g.un fh av cv L W5 hLn.out hLl hPts
    have hpy := hput.out g.un fh rfl rfl
    replace hpy := Lib.hid hpy
    replace hW5 := Lib.hid hW5
    clear g6 g6c hO hOc gA0 gA1 gA2 hput
    go_wp2_with fail
    try rw [hW5.out]
    (with_reducible refine SO.mono ?_)
    rintro e w6 ⟨hs,y6⟩
    clear SO hPts
    have gA3 := gA2c.ext y6
    obtain ⟨d0,d1,d2,d3,d4⟩ := gA3.cells
    have fr3 := fun o => gA3.free o
    rcases SortTold.srt (f := ⟨g.nm,g.k,g.un,fh,av,cv,L⟩) hs with ⟨a7,c7,L7,hsr,rfl,hOP,_⟩ | ⟨hsr,rfl⟩
    ·clear hs gA3
     rw [hpy.out,← HG.out] at hsr
     replace hsr := Lib.hid hsr
     have XF := (xwc.trans y6).set5 (B + 1 + 1) hz2 (.string g.nm) (.int .i64 g.k) (.string g.un) (.string fh) (.slice a7 L7.length c7)
     have hOP5 := hOP.set5 (B + 1 + 1) hzW (.string g.nm) (.int .i64 g.k) (.string g.un) (.string fh) (.slice a7 L7.length c7)
     have hB7 := hOP5.blk
     obtain ⟨a8,c8,hv8,hP8⟩ := hOP5.pts
     injection hv8 with q1 q2 q3
     subst q1 q3
     have hwz := xwc.size
     clear hOP hOP5 q2
     go_wp2_with fail
     refine bodyPost_ret (v := .tuple #[.agg #[.string g.nm,.int .i64 g.k,.string g.un,.string fh,.slice a7 L7.length c7],.bool true]) ?_ rfl ⟨.inl ⟨⟨g.nm,g.k,g.un,fh,a7,c7,L7⟩,hsr.out,rfl,hP8,⟨fun x hx => ?_,fun p hp x hx => ?_⟩⟩,XF⟩
     ·simp [results,Tryz.results29,go_sem,d0,d1,d2,d3,d4]
     ·have := hB7.1 x hx; omega
     ·have := hB7.2 p hp x hx; omega
    ·clear hs gA3
     rw [hpy.out,← HG.out] at hsr
     replace hsr := Lib.hid hsr
     have XF := (xwc.trans y6).set5 (B + 1 + 1) hz2 (.string ⟨#[]⟩) (.int .i64 0) (.string ⟨#[]⟩) (.string ⟨#[]⟩) (.slice none 0 0)
     go_wp2_with fail
     refine bodyPost_ret (v := .tuple #[.agg #[.string ⟨#[]⟩,.int .i64 0,.string ⟨#[]⟩,.string ⟨#[]⟩,.slice none 0 0],.bool false]) ?_ rfl ⟨.inr ⟨hsr.out,rfl⟩,XF⟩
     simp [results,Tryz.results29,go_sem,d0,d1,d2,d3,d4]
   ·have g6c := g6
    have hOc := hO
    have xwc := xw
    have gA2c := gA2
    obtain ⟨c0',c1',c2',c3',c4'⟩ := (gA0.setC A6 2 (.string fu) hzB).cells
    replace g6c := g6c.set2 fu
    replace hOc := hOc.setOff A6 2 (.string fu) o61 o62
    replace xwc := xwc.setC A6 2 (.string fu) hwA
    replace gA2c := gA2c.setC A6 2 (.string fu) hzA
    obtain ⟨f0,f1,f2,f3,f4⟩ := g6c.cells
    have fr2 := fun o => g6c.free o
    obtain ⟨W5,hW5⟩ : ∃ W5,(wr.setCell ⟨A6,2,none⟩ (.string fu)) = W5 := ⟨_,rfl⟩
    have hzW : B + 1 + 1 < W5.heap.size := by rw [← hW5]; (try simp only [World.size_setCell]); exact hzN
    rw [hW5] at hOc xwc gA2c
    obtain ⟨a',c',hv',hPts⟩ := hOc.pts
    injection hv' with q1 q2 q3
    subst q1 q3
    clear q2
    have SO := famSort_any g.nm g.k fu g.he av cv L W5 hLn.out hLl hPts
    have hpy := hput.out fu g.he rfl rfl
    replace hpy := Lib.hid hpy
    replace hW5 := Lib.hid hW5
    clear g6 g6c hO hOc gA0 gA1 gA2 hput
    go_wp2_with fail
    try rw [hW5.out]
    (with_reducible refine SO.mono ?_)
    rintro e w6 ⟨hs,y6⟩
    clear SO hPts
    have gA3 := gA2c.ext y6
    obtain ⟨d0,d1,d2,d3,d4⟩ := gA3.cells
    have fr3 := fun o => gA3.free o
    rcases SortTold.srt (f := ⟨g.nm,g.k,fu,g.he,av,cv,L⟩) hs with ⟨a7,c7,L7,hsr,rfl,hOP,_⟩ | ⟨hsr,rfl⟩
    ·clear hs gA3
     rw [hpy.out,← HG.out] at hsr
     replace hsr := Lib.hid hsr
     have XF := (xwc.trans y6).set5 (B + 1 + 1) hz2 (.string g.nm) (.int .i64 g.k) (.string fu) (.string g.he) (.slice a7 L7.length c7)
     have hOP5 := hOP.set5 (B + 1 + 1) hzW (.string g.nm) (.int .i64 g.k) (.string fu) (.string g.he) (.slice a7 L7.length c7)
     have hB7 := hOP5.blk
     obtain ⟨a8,c8,hv8,hP8⟩ := hOP5.pts
     injection hv8 with q1 q2 q3
     subst q1 q3
     have hwz := xwc.size
     clear hOP hOP5 q2
     go_wp2_with fail
     refine bodyPost_ret (v := .tuple #[.agg #[.string g.nm,.int .i64 g.k,.string fu,.string g.he,.slice a7 L7.length c7],.bool true]) ?_ rfl ⟨.inl ⟨⟨g.nm,g.k,fu,g.he,a7,c7,L7⟩,hsr.out,rfl,hP8,⟨fun x hx => ?_,fun p hp x hx => ?_⟩⟩,XF⟩
     ·simp [results,Tryz.results29,go_sem,d0,d1,d2,d3,d4]
     ·have := hB7.1 x hx; omega
     ·have := hB7.2 p hp x hx; omega
    ·clear hs gA3
     rw [hpy.out,← HG.out] at hsr
     replace hsr := Lib.hid hsr
     have XF := (xwc.trans y6).set5 (B + 1 + 1) hz2 (.string ⟨#[]⟩) (.int .i64 0) (.string ⟨#[]⟩) (.string ⟨#[]⟩) (.slice none 0 0)
     go_wp2_with fail
     refine bodyPost_ret (v := .tuple #[.agg #[.string ⟨#[]⟩,.int .i64 0,.string ⟨#[]⟩,.string ⟨#[]⟩,.slice none 0 0],.bool false]) ?_ rfl ⟨.inr ⟨hsr.out,rfl⟩,XF⟩
     simp [results,Tryz.results29,go_sem,d0,d1,d2,d3,d4]
   ·have g6c := g6
    have hOc := hO
    have xwc := xw
    have gA2c := gA2
    obtain ⟨c0',c1',c2',c3',c4'⟩ := (gA0.setC A6 2 (.string fu) hzB).cells
    replace g6c := g6c.set2 fu
    replace hOc := hOc.setOff A6 2 (.string fu) o61 o62
    replace xwc := xwc.setC A6 2 (.string fu) hwA
    replace gA2c := gA2c.setC A6 2 (.string fu) hzA
    obtain ⟨f0,f1,f2,f3,f4⟩ := g6c.cells
    have fr2 := fun o => g6c.free o
    replace g6c := g6c.set3 fh
    replace hOc := hOc.setOff A6 3 (.string fh) o61 o62
    replace xwc := xwc.setC A6 3 (.string fh) hwA
    replace gA2c := gA2c.setC A6 3 (.string fh) hzA
    obtain ⟨k0,k1,k2,k3,k4⟩ := g6c.cells
    obtain ⟨W5,hW5⟩ : ∃ W5,((wr.setCell ⟨A6,2,none⟩ (.string fu)).setCell ⟨A6,3,none⟩ (.string fh)) = W5 := ⟨_,rfl⟩
    have hzW : B + 1 + 1 < W5.heap.size := by rw [← hW5]; (try simp only [World.size_setCell]); exact hzN
    rw [hW5] at hOc xwc gA2c
    obtain ⟨a',c',hv',hPts⟩ := hOc.pts
    injection hv' with q1 q2 q3
    subst q1 q3
    clear q2
    have SO := famSort_any g.nm g.k fu fh av cv L W5 hLn.out hLl hPts
    have hpy := hput.out fu fh rfl rfl
    replace hpy := Lib.hid hpy
    replace hW5 := Lib.hid hW5
    clear g6 g6c hO hOc gA0 gA1 gA2 hput
    go_wp2_with fail
    try rw [hW5.out]
    (with_reducible refine SO.mono ?_)
    rintro e w6 ⟨hs,y6⟩
    clear SO hPts
    have gA3 := gA2c.ext y6
    obtain ⟨d0,d1,d2,d3,d4⟩ := gA3.cells
    have fr3 := fun o => gA3.free o
    rcases SortTold.srt (f := ⟨g.nm,g.k,fu,fh,av,cv,L⟩) hs with ⟨a7,c7,L7,hsr,rfl,hOP,_⟩ | ⟨hsr,rfl⟩
    ·clear hs gA3
     rw [hpy.out,← HG.out] at hsr
     replace hsr := Lib.hid hsr
     have XF := (xwc.trans y6).set5 (B + 1 + 1) hz2 (.string g.nm) (.int .i64 g.k) (.string fu) (.string fh) (.slice a7 L7.length c7)
     have hOP5 := hOP.set5 (B + 1 + 1) hzW (.string g.nm) (.int .i64 g.k) (.string fu) (.string fh) (.slice a7 L7.length c7)
     have hB7 := hOP5.blk
     obtain ⟨a8,c8,hv8,hP8⟩ := hOP5.pts
     injection hv8 with q1 q2 q3
     subst q1 q3
     have hwz := xwc.size
     clear hOP hOP5 q2
     go_wp2_with fail
     refine bodyPost_ret (v := .tuple #[.agg #[.string g.nm,.int .i64 g.k,.string fu,.string fh,.slice a7 L7.length c7],.bool true]) ?_ rfl ⟨.inl ⟨⟨g.nm,g.k,fu,fh,a7,c7,L7⟩,hsr.out,rfl,hP8,⟨fun x hx => ?_,fun p hp x hx => ?_⟩⟩,XF⟩
     ·simp [results,Tryz.results29,go_sem,d0,d1,d2,d3,d4]
     ·have := hB7.1 x hx; omega
     ·have := hB7.2 p hp x hx; omega
    ·clear hs gA3
     rw [hpy.out,← HG.out] at hsr
     replace hsr := Lib.hid hsr
     have XF := (xwc.trans y6).set5 (B + 1 + 1) hz2 (.string ⟨#[]⟩) (.int .i64 0) (.string ⟨#[]⟩) (.string ⟨#[]⟩) (.slice none 0 0)
     go_wp2_with fail
     refine bodyPost_ret (v := .tuple #[.agg #[.string ⟨#[]⟩,.int .i64 0,.string ⟨#[]⟩,.string ⟨#[]⟩,.slice none 0 0],.bool false]) ?_ rfl ⟨.inr ⟨hsr.out,rfl⟩,XF⟩
     simp [results,Tryz.results29,go_sem,d0,d1,d2,d3,d4]
end Go.Proofs.YtjjnmefihdjglaaGreat
