import Derived.Test.YtjjnmefihdjglaaGreatRsA
import Derived.Test.YtjjnmefihdjglaaGreatRcA
import Derived.Deep.DeepCutAuto
import Derived.Deep.CutBlock
set_option maxRecDepth 100000
set_option maxHeartbeats 64000000
set_option linter.all false
namespace Go.Proofs.YtjjnmefihdjglaaGreat
open Go.RowKit
theorem OwnR.mono {E : Type} {K : Nat} {T : TypeId} {cs : E → List Value} {base base' n : Nat} {v : Value} {d : Nat → E} {W : World} (h : OwnR K T cs base v n d W) (hb : base' ≤ base) : OwnR K T cs base' v n d W := by
 rcases h with h | ⟨g,cap,e1,h1,h2⟩
 ·exact .inl h
 ·exact .inr ⟨g,cap,e1,Nat.le_trans hb h1,h2⟩
theorem setC_off {b g o : Nat} {u : Value} {w : World} (h : b ≠ g) : (w.setCell ⟨b,o,none⟩ u).heap[g]? = w.heap[g]? := by
 unfold World.setCell
 simp only [Array.getElem?_modify]
 rw [if_neg h]
def fD (p q : PtD) : Int := cmpK p.k q.k
theorem fD_cmp : Cmp fD := cmpK_cmp.pull PtD.k
theorem ris_fD (L : List PtD) : Ris fD L ↔ Ris cmpY (L.map PtD.y) := by
 rw [ris_map]
 exact Iff.rfl
def RowP (base : Nat) (a : Option Addr) (l : List PtD) (w : World) : Prop := 0 < l.length → ∃ b o,a = some ⟨b,o,none⟩ ∧ base ≤ b ∧ b < w.heap.size ∧ PtsAt b o l w
theorem RowP.pts {base : Nat} {a : Option Addr} {l : List PtD} {w : World} (h : RowP base a l w) (hk : ∀ p ∈ l,p.Ok w) : PtsA a l w := by
 refine ⟨fun h0 => ?_,hk⟩
 obtain ⟨b,o,e,_,h1,h2⟩ := h h0
 exact ⟨b,o,e,h1,h2⟩
theorem RowP.mono {base base' : Nat} {a : Option Addr} {l : List PtD} {w : World} (h : RowP base a l w) (hb : base' ≤ base) : RowP base' a l w := fun h0 => by
 obtain ⟨b,o,e,h1,h2,h3⟩ := h h0
 exact ⟨b,o,e,Nat.le_trans hb h1,h2,h3⟩
theorem RowP.keep {base : Nat} {a : Option Addr} {l : List PtD} {w w' : World} (h : RowP base a l w) (hz : w.heap.size ≤ w'.heap.size) (hk : ∀ b,base ≤ b → b < w.heap.size → w'.heap[b]? = w.heap[b]?) : RowP base a l w' := fun h0 => by
 obtain ⟨b,o,e,h1,h2,h3⟩ := h h0
 refine ⟨b,o,e,h1,Nat.lt_of_lt_of_le h2 hz,fun i hi => ?_⟩
 have c : ∀ o',w'.cell? ⟨b,o',none⟩ = w.cell? ⟨b,o',none⟩ := fun o' => World.cell?_of_block (hk b h1 h2)
 obtain ⟨c0,c1,c2,c3,c4,c5,c6,c7,c8⟩ := h3 i hi
 exact ⟨(c _).trans c0,(c _).trans c1,(c _).trans c2,(c _).trans c3,(c _).trans c4,(c _).trans c5,(c _).trans c6,(c _).trans c7,(c _).trans c8⟩
theorem RowP.ext {base : Nat} {a : Option Addr} {l : List PtD} {w w' : World} (h : RowP base a l w) (x : Ext w w') : RowP base a l w' := h.keep x.size (fun b _ hb => x.heap hb)
theorem RowP.setC {base : Nat} {a : Option Addr} {l : List PtD} {w : World} (h : RowP base a l w) (b o : Nat) (u : Value) (hb : b < base) : RowP base a l (w.setCell ⟨b,o,none⟩ u) :=
 h.keep (by rw [World.size_setCell]; exact Nat.le_refl _) (fun g hg _ => setC_off (by omega))
theorem OwnR.rowP {base : Nat} {a : Option Addr} {c : Nat} {L : List PtD} {W : World} (h : OwnR 9 40 PtD.cs base (.slice a L.length c) L.length (fun i => L[i]?.getD PtD.zero) W) : RowP base a L W := fun h0 => by
 obtain ⟨g,cap,e,hg,hr⟩ := h.row h0
 injection e with e _ _
 subst e
 refine ⟨g,0,rfl,hg,hr.lt,fun i hi => ?_⟩
 have e : L[i]?.getD PtD.zero = L[i] := by simp [hi]
 have C := fun j v hj hv => hr.cell i j v hi hj (by rw [e]; exact hv)
 rw [Nat.zero_add]
 exact ⟨C 0 _ (by decide) rfl,C 1 _ (by decide) rfl,C 2 _ (by decide) rfl,C 3 _ (by decide) rfl,C 4 _ (by decide) rfl,C 5 _ (by decide) rfl,C 6 _ (by decide) rfl,C 7 _ (by decide) rfl,C 8 _ (by decide) rfl⟩
def SFTold (base : Nat) (src : List PtD) (R : Option FamY) (e : Ending) (w' : World) : Prop :=
 ∃ (q : FamD) (ok : Bool),e = .returned (.tuple #[.agg #[.string q.nm,.int .i64 q.k,.string q.un,.string q.he,.slice q.pa q.ps.length q.pc],.bool ok]) ∧ RowP base q.pa q.ps w' ∧ (∀ p ∈ q.ps,p ∈ src) ∧ (ok = true → R = some q.y) ∧ (ok = false → R = none ∧ q.y = FamD.zero.y)
theorem rSortFam_any (f : FamD) (w : World) (hf : PtsA f.pa f.ps w) (sf : f.y.Sm) :
  Calls Tryz.prog 59 #[.agg #[.string f.nm,.int .i64 f.k,.string f.un,.string f.he,.slice f.pa f.ps.length f.pc]] w fun e w' => SFTold w.heap.size f.ps (srt f.y) e w' ∧ Ext w w' := by
 obtain ⟨fn,fk,fu,fh,fpa,fpc,fps⟩ := f
 have spl : fps.length ≤ 1000 := sf.pl
 clear sf
 dsimp only at hf ⊢
 obtain ⟨S,hS⟩ : ∃ S,srt (FamD.y ⟨fn,fk,fu,fh,fpa,fpc,fps⟩) = S := ⟨_,rfl⟩
 rw [hS]
 have hbad : Hid ((∀ M : List PtY,M.Perm (fps.map PtD.y) → ¬ Ris cmpY M) → S = none) := Lib.hid (fun h => by
  rw [← hS]
  exact srt_none h)
 have hgood : Hid (∀ L : List PtD,L.Perm fps → Ris fD L → S = some ⟨fn,fk,fu,fh,L.map PtD.y⟩) := Lib.hid (fun L hp hr => by
  rw [← hS]
  exact srt_some (f := FamD.y ⟨fn,fk,fu,fh,fpa,fpc,fps⟩) (hp.map _) ((ris_fD L).1 hr))
 clear hS
 obtain ⟨W,hW⟩ : ∃ W,(w.alloc (.cells #[.string fn,.int .i64 fk,.string fu,.string fh,.slice fpa fps.length fpc] 35)).alloc (.cells #[.string ⟨#[]⟩,.int .i64 0,.string ⟨#[]⟩,.string ⟨#[]⟩,.slice none 0 0] 35) = W := ⟨_,rfl⟩
 have xw : Ext w W := by rw [← hW]; exact ((Ext.refl w).alloc _).alloc _
 have gF : FamIn w.heap.size fn fk fu fh (.slice fpa fps.length fpc) W := by rw [← hW]; exact heap_at2a _ _ _
 have gZ : FamIn (w.heap.size + 1) ⟨#[]⟩ 0 ⟨#[]⟩ ⟨#[]⟩ (.slice none 0 0) W := by rw [← hW]; exact heap_at2b _ _ _
 have hWz : w.heap.size + 2 ≤ W.heap.size := by rw [← hW]; simp
 replace hW := Lib.hid hW
 obtain ⟨N,hN⟩ : ∃ N,W.heap.size = N := ⟨_,rfl⟩
 have hNq : N ≤ W.heap.size := by omega
 have hNr : W.heap.size ≤ N := by omega
 obtain ⟨B,hB⟩ : ∃ B,w.heap.size = B := ⟨_,rfl⟩
 rw [hB] at gF gZ hWz
 have hwB : w.heap.size ≤ B + 1 := by omega
 have hBN : B + 1 < N := by omega
 clear hWz
 have hf0 := hf
 replace hf := hf.ext xw
 go_enter Tryz.func59,Tryz.ntmps59
 go_wp2_with fail
 try rw [hB]
 rw [hW.out]
 have hwN : w.heap.size ≤ N := by omega
 clear hW hB hN
 go_loopw [4,5] (fun s i wr => ∃ (k : Nat) (L : List PtD),i = .int .i64 k ∧ k ≤ fps.length ∧ OwnR 9 40 PtD.cs N s L.length (fun i => L[i]?.getD PtD.zero) wr ∧ Hid (L.Perm (fps.take k) ∧ Ris fD L) ∧ Ext W wr) (fun _ i _ => fps.length - (intOf i).toNat)
 case atStart => exact ⟨0,[],rfl,Nat.zero_le _,OwnR.nil _ _ _,Lib.hid ⟨List.Perm.refl _,List.Pairwise.nil⟩,Ext.refl _⟩
 case round =>
  obtain ⟨k,L,rfl,hk,hO,hQ,xr⟩ := hrel
  replace gF := gF.ext xr
  replace gZ := gZ.ext xr
  replace hf := hf.ext xr
  replace hNq := Nat.le_trans hNq xr.size
  obtain ⟨c0,c1,c2,c3,c4⟩ := gF.cells
  obtain ⟨a,cap,hv,hPL⟩ := hO.ptsA rfl (fun p hp => hf.2 p (List.mem_of_mem_take (hQ.out.1.subset hp)))
  subst hv
  by_cases hlt : k < fps.length
  ·have hLk : L.length = k := by have := hQ.out.1.length_eq; rw [List.length_take] at this; omega
   have hLn : Hid (L.length = k ∧ k < 1000) := Lib.hid ⟨hLk,by omega⟩
   clear hLk
   obtain ⟨pb,po,rfl,hpb,hPP⟩ := hf.1 (by omega)
   have okx := hf.2 _ (List.getElem_mem hlt)
   obtain ⟨x0,x1,x2,x3,x4,x5,x6,x7,x8⟩ := hPP k hlt
   obtain ⟨x,hx⟩ : ∃ x,fps[k] = x := ⟨_,rfl⟩
   rw [hx] at okx x0 x1 x2 x3 x4 x5 x6 x7 x8
   replace hx := Lib.hid hx
   have i0 : (k : Int) < (fps.length : Int) := by omega
   have hok : ∀ p ∈ L,p.Ok wr := fun p hp => hf.2 p (List.mem_of_mem_take (hQ.out.1.subset hp))
   clear hPP
   go_upto_block 2 with fail
   go_cut [6] (fun s6 wx => ∃ j : Nat,s6 = .int .i64 j ∧ j ≤ L.length ∧ Hid ((∀ i (hi : i < L.length),j ≤ i → 0 < fD L[i] x) ∧ ∀ i (hi : i < L.length),i + 1 = j → fD L[i] x ≤ 0) ∧ Ext wr wx)
   case first =>
    go_wp2_with fail
    go_loopw [6] (fun s6 ws => ∃ j : Nat,s6 = .int .i64 j ∧ j ≤ L.length ∧ Hid (∀ i (hi : i < L.length),j ≤ i → 0 < fD L[i] x) ∧ Ext wr ws) (fun s6 _ => (intOf s6).toNat)
    case atStart => exact ⟨L.length,rfl,Nat.le_refl _,Lib.hid (fun i hi h => by omega),Ext.refl _⟩
    case round =>
     rename World => ws
     obtain ⟨j,rfl,hj,hG,xs⟩ := hrel
     cases j with
     | zero =>
       go_wp2_with fail
       refine wp_region_held_drew (S := Ext ws) (by kernel_rfl) ((Ext.refl ws).drew) (fun hH => ?_)
       refine tk 0 rfl (by kernel_rfl) (fun _ _ _ h => h) rfl (fun w9 hS9 => by go_simp; (try rfl)) hH ?_
       try simp only [Act.put,aT,aZ,aS]
       refine tk 1 rfl (by kernel_rfl) (fun _ _ _ h => h) rfl (fun w9 hS9 => by go_simp; (try rfl)) hH ?_
       try simp only [Act.put,aT,aZ,aS]
       refine tk 2 rfl (by kernel_rfl) (fun _ _ _ h => h) rfl (fun w9 hS9 => by go_simp; (try rfl)) hH ?_
       try simp only [Act.put,aT,aZ,aS]
       refine tk0 3 rfl (by kernel_rfl) (fun _ _ _ h => h) rfl hH ?_
       try simp only [Act.put,aT,aZ,aS]
       refine tk0 4 rfl (by kernel_rfl) (fun _ _ _ h => h) rfl hH ?_
       try simp only [Act.put,aT,aZ,aS]
       refine tk0 5 rfl (by kernel_rfl) (fun _ _ _ h => h) rfl hH ?_
       try simp only [Act.put,aT,aZ,aS]
       refine tk0 6 rfl (by kernel_rfl) (fun _ _ _ h => h) rfl hH ?_
       try simp only [Act.put,aT,aZ,aS]
       refine tk0 7 rfl (by kernel_rfl) (fun _ _ _ h => h) rfl hH ?_
       try simp only [Act.put,aT,aZ,aS]
       refine tk0 8 rfl (by kernel_rfl) (fun _ _ _ h => h) rfl hH ?_
       try simp only [Act.put,aT,aZ,aS]
       refine tk0 9 rfl (by kernel_rfl) (fun _ _ _ h => h) rfl hH ?_
       try simp only [Act.put,aT,aZ,aS]
       refine tk0 10 rfl (by kernel_rfl) (fun _ _ _ h => h) rfl hH ?_
       try simp only [Act.put,aT,aZ,aS]
       refine tk0 11 rfl (by kernel_rfl) (fun _ _ _ h => h) rfl hH ?_
       try simp only [Act.put,aT,aZ,aS]
       refine tk0 12 rfl (by kernel_rfl) (fun _ _ _ h => h) rfl hH ?_
       try simp only [Act.put,aT,aZ,aS]
       refine tk0 13 rfl (by kernel_rfl) (fun _ _ _ h => h) rfl hH ?_
       try simp only [Act.put,aT,aZ,aS]
       refine tk0 14 rfl (by kernel_rfl) (fun _ _ _ h => h) rfl hH ?_
       try simp only [Act.put,aT,aZ,aS]
       refine tk 15 rfl (by kernel_rfl) (fun _ _ _ h => h) rfl (fun w9 hS9 => by go_simp; (try rfl)) hH ?_
       try simp only [Act.put,aT,aZ,aS]
       refine wpAnyH_done (by kernel_rfl) ?_ _
       go_wp2_with fail
       go_meet
       case rel => exact ⟨0,rfl,Nat.zero_le _,Lib.hid ⟨hG.out,fun i _ h => by omega⟩,xs.trans hH⟩
     | succ j =>
       obtain ⟨lb,lo,ea,hLb0,hT⟩ := hPL.1 (by omega)
       subst ea
       have hjl : j < L.length := by omega
       have okp := hok _ (List.getElem_mem hjl)
       obtain ⟨p0,p1,p2,p3,p4,p5,p6,p7,p8⟩ := hT j hjl
       obtain ⟨cv,hcv0⟩ : ∃ cv,cmpK (L[j]'hjl).k x.k = cv := ⟨_,rfl⟩
       have hcv : Hid (∀ h : j < L.length,fD (L[j]'h) x = cv) := Lib.hid (fun _ => hcv0)
       have CP := fun W (y : Ext ws W) => rcmpD_any (L[j]'hjl) x W (okp.ext ((xs.trans y))) (okx.ext ((xs.trans y)))
       rw [hcv0] at CP
       clear hcv0
       generalize L[j]'hjl = p at *
       unfold PtD.v ptV at CP
       replace p0 := (Ext.cell xs hLb0).trans p0
       replace x0 := (Ext.cell xs hpb).trans x0
       replace p1 := (Ext.cell xs hLb0).trans p1
       replace x1 := (Ext.cell xs hpb).trans x1
       replace p2 := (Ext.cell xs hLb0).trans p2
       replace x2 := (Ext.cell xs hpb).trans x2
       replace p3 := (Ext.cell xs hLb0).trans p3
       replace x3 := (Ext.cell xs hpb).trans x3
       replace p4 := (Ext.cell xs hLb0).trans p4
       replace x4 := (Ext.cell xs hpb).trans x4
       replace p5 := (Ext.cell xs hLb0).trans p5
       replace x5 := (Ext.cell xs hpb).trans x5
       replace p6 := (Ext.cell xs hLb0).trans p6
       replace x6 := (Ext.cell xs hpb).trans x6
       replace p7 := (Ext.cell xs hLb0).trans p7
       replace x7 := (Ext.cell xs hpb).trans x7
       replace p8 := (Ext.cell xs hLb0).trans p8
       replace x8 := (Ext.cell xs hpb).trans x8
       have hLb := Nat.lt_of_lt_of_le hLb0 xs.size
       replace hpb := Nat.lt_of_lt_of_le hpb xs.size
       replace gF := gF.ext xs
       clear c0 c1 c2 c3 c4
       obtain ⟨c0,c1,c2,c3,c4⟩ := gF.cells
       have i1 : IntKind.i64.wrap (j : Int) = (j : Int) := IntWalk.i64_in _ (by have := hLn.out; omega)
       have i2 : (j : Int) < (L.length : Int) := by omega
       have i3 : (0 : Int) < (j : Int) + 1 := by omega
       have i4 : (0 : Int) ≤ (j : Int) + 1 := by omega
       clear hT okp
       go_wp2_with fail
       refine wp_region_held_drew (S := Ext ws) (by kernel_rfl) ((Ext.refl ws).drew) (fun hH => ?_)
       refine tk 0 rfl (by kernel_rfl) (fun _ _ _ h => h) rfl (fun w9 hS9 => by go_simp; (try rfl)) hH ?_
       try simp only [Act.put,aT,aZ,aS]
       refine tk 1 rfl (by kernel_rfl) (fun _ _ _ h => h) rfl (fun w9 hS9 => by go_simp; (try rfl)) hH ?_
       try simp only [Act.put,aT,aZ,aS]
       refine tk 2 rfl (by kernel_rfl) (fun _ _ _ h => h) rfl (fun w9 hS9 => by go_simp; (try rfl)) hH ?_
       try simp only [Act.put,aT,aZ,aS]
       refine tk 3 rfl (by kernel_rfl) (fun _ _ _ h => h) rfl (fun w9 hS9 => by go_simp; (try rfl)) hH ?_
       try simp only [Act.put,aT,aZ,aS]
       refine tk 4 rfl (by kernel_rfl) (fun _ _ _ h => h) rfl (fun w9 hS9 => by go_simp; (try rfl)) hH ?_
       try simp only [Act.put,aT,aZ,aS]
       refine tk 5 rfl (by kernel_rfl) (fun _ _ _ h => h) rfl (fun w9 hS9 => by go_simp; (try rfl)) hH ?_
       try simp only [Act.put,aT,aZ,aS]
       refine tk 6 rfl (by kernel_rfl) (fun _ _ _ h => h) rfl (fun w9 hS9 => by go_simp; (try rfl)) hH ?_
       try simp only [Act.put,aT,aZ,aS]
       refine tk 7 rfl (by kernel_rfl) (fun _ _ _ h => h) rfl (fun w9 hS9 => by replace p0 := (Ext.cell hS9 hLb).trans p0; replace p1 := (Ext.cell hS9 hLb).trans p1; replace p2 := (Ext.cell hS9 hLb).trans p2; replace p3 := (Ext.cell hS9 hLb).trans p3; replace p4 := (Ext.cell hS9 hLb).trans p4; replace p5 := (Ext.cell hS9 hLb).trans p5; replace p6 := (Ext.cell hS9 hLb).trans p6; replace p7 := (Ext.cell hS9 hLb).trans p7; replace p8 := (Ext.cell hS9 hLb).trans p8; go_simp; (try rfl)) hH ?_
       try simp only [Act.put,aT,aZ,aS]
       refine tk 8 rfl (by kernel_rfl) (fun _ _ _ h => h) rfl (fun w9 hS9 => by obtain ⟨c0,c1,c2,c3,c4⟩ := (gF.ext hS9).cells; go_simp; (try rfl)) hH ?_
       try simp only [Act.put,aT,aZ,aS]
       refine tk 9 rfl (by kernel_rfl) (fun _ _ _ h => h) rfl (fun w9 hS9 => by obtain ⟨c0,c1,c2,c3,c4⟩ := (gF.ext hS9).cells; go_simp; (try rfl)) hH ?_
       try simp only [Act.put,aT,aZ,aS]
       refine tk 10 rfl (by kernel_rfl) (fun _ _ _ h => h) rfl (fun w9 hS9 => by obtain ⟨c0,c1,c2,c3,c4⟩ := (gF.ext hS9).cells; go_simp; (try rfl)) hH ?_
       try simp only [Act.put,aT,aZ,aS]
       refine tk 11 rfl (by kernel_rfl) (fun _ _ _ h => h) rfl (fun w9 hS9 => by obtain ⟨c0,c1,c2,c3,c4⟩ := (gF.ext hS9).cells; go_simp; (try rfl)) hH ?_
       try simp only [Act.put,aT,aZ,aS]
       refine tk 12 rfl (by kernel_rfl) (fun _ _ _ h => h) rfl (fun w9 hS9 => by replace x0 := (Ext.cell hS9 hpb).trans x0; replace x1 := (Ext.cell hS9 hpb).trans x1; replace x2 := (Ext.cell hS9 hpb).trans x2; replace x3 := (Ext.cell hS9 hpb).trans x3; replace x4 := (Ext.cell hS9 hpb).trans x4; replace x5 := (Ext.cell hS9 hpb).trans x5; replace x6 := (Ext.cell hS9 hpb).trans x6; replace x7 := (Ext.cell hS9 hpb).trans x7; replace x8 := (Ext.cell hS9 hpb).trans x8; go_simp; (try rfl)) hH ?_
       try simp only [Act.put,aT,aZ,aS]
       refine wR (rs := [13]) (by kernel_rfl) (by simp) (aR rfl (fun K hK => ?_) aN)
       rw [if_pos (by rfl)]
       go_simp
       go_at_call 34
       (with_reducible refine (CP _ hH).mono ?_)
       rintro e wz ⟨rfl,xz⟩
       refine hK.out _ _ (hH.trans xz) (fun hH => ?_)
       clear hK K
       try simp only [aT,aZ,aS]
       refine tk 14 rfl (by kernel_rfl) (fun _ _ _ h => h) rfl (fun w9 hS9 => by go_simp; (try rfl)) hH ?_
       try simp only [Act.put,aT,aZ,aS]
       refine tk 15 rfl (by kernel_rfl) (fun _ _ _ h => h) rfl (fun w9 hS9 => by go_simp; (try rfl)) hH ?_
       try simp only [Act.put,aT,aZ,aS]
       refine wpAnyH_done (by kernel_rfl) ?_ _
       by_cases h0 : 0 < cv
       ·have hG2 : Hid (∀ i (hi : i < L.length),j ≤ i → 0 < fD L[i] x) := Lib.hid (fun i hi h => by
         by_cases q : i = j
         ·subst q; have := hcv.out hi; omega
         ·exact hG.out i hi (by omega))
        have h0' : cv > 0 := h0
        clear hG hcv
        go_wp2_with fail
        go_roundw
        case rel => exact ⟨j,rfl,by omega,hG2,xs.trans hH⟩
        case measure => simp only [intOf]; omega
       ·have h0' : ¬ cv > 0 := by omega
        go_wp2_with fail
        go_meet
        case rel => exact ⟨j + 1,rfl,hj,Lib.hid ⟨hG.out,fun i hi h => by (obtain rfl : i = j := by omega); have := hcv.out hi; omega⟩,xs.trans hH⟩
   case rest =>
    obtain ⟨j,rfl,hj,hG,xs⟩ := hcut
    rename World => wo
    replace gF := gF.ext xs
    replace gZ := gZ.ext xs
    clear c0 c1 c2 c3 c4
    obtain ⟨c0,c1,c2,c3,c4⟩ := gF.cells
    go_upto_region 8 with fail
    go_cut [49] (fun s49 wx => ∃ b : Bool,s49 = .bool b ∧ Hid ((b = true → ∃ i,∃ h : i < L.length,fD L[i] x = 0) ∧ (b = false → ∀ i (h : i < L.length),i + 1 = j → fD L[i] x < 0)) ∧ Ext wo wx)
    case first =>
     cases j with
     | zero =>
       refine wp_region_held_drew (S := Ext wo) (by kernel_rfl) ((Ext.refl wo).drew) (fun hH => ?_)
       refine tk 0 rfl (by kernel_rfl) (fun _ _ _ h => h) rfl (fun w9 hS9 => by go_simp; (try rfl)) hH ?_
       try simp only [Act.put,aT,aZ,aS]
       refine tk 1 rfl (by kernel_rfl) (fun _ _ _ h => h) rfl (fun w9 hS9 => by go_simp; (try rfl)) hH ?_
       try simp only [Act.put,aT,aZ,aS]
       refine tk 2 rfl (by kernel_rfl) (fun _ _ _ h => h) rfl (fun w9 hS9 => by go_simp; (try rfl)) hH ?_
       try simp only [Act.put,aT,aZ,aS]
       refine tk0 3 rfl (by kernel_rfl) (fun _ _ _ h => h) rfl hH ?_
       try simp only [Act.put,aT,aZ,aS]
       refine tk0 4 rfl (by kernel_rfl) (fun _ _ _ h => h) rfl hH ?_
       try simp only [Act.put,aT,aZ,aS]
       refine tk0 5 rfl (by kernel_rfl) (fun _ _ _ h => h) rfl hH ?_
       try simp only [Act.put,aT,aZ,aS]
       refine tk0 6 rfl (by kernel_rfl) (fun _ _ _ h => h) rfl hH ?_
       try simp only [Act.put,aT,aZ,aS]
       refine tk0 7 rfl (by kernel_rfl) (fun _ _ _ h => h) rfl hH ?_
       try simp only [Act.put,aT,aZ,aS]
       refine tk0 8 rfl (by kernel_rfl) (fun _ _ _ h => h) rfl hH ?_
       try simp only [Act.put,aT,aZ,aS]
       refine tk0 9 rfl (by kernel_rfl) (fun _ _ _ h => h) rfl hH ?_
       try simp only [Act.put,aT,aZ,aS]
       refine tk0 10 rfl (by kernel_rfl) (fun _ _ _ h => h) rfl hH ?_
       try simp only [Act.put,aT,aZ,aS]
       refine tk0 11 rfl (by kernel_rfl) (fun _ _ _ h => h) rfl hH ?_
       try simp only [Act.put,aT,aZ,aS]
       refine tk0 12 rfl (by kernel_rfl) (fun _ _ _ h => h) rfl hH ?_
       try simp only [Act.put,aT,aZ,aS]
       refine tk0 13 rfl (by kernel_rfl) (fun _ _ _ h => h) rfl hH ?_
       try simp only [Act.put,aT,aZ,aS]
       refine tk0 14 rfl (by kernel_rfl) (fun _ _ _ h => h) rfl hH ?_
       try simp only [Act.put,aT,aZ,aS]
       refine tk 15 rfl (by kernel_rfl) (fun _ _ _ h => h) rfl (fun w9 hS9 => by go_simp; (try rfl)) hH ?_
       try simp only [Act.put,aT,aZ,aS]
       refine wpAnyH_done (by kernel_rfl) ?_ _
       go_wp2_with fail
       go_meet
       case rel => exact ⟨false,rfl,Lib.hid ⟨(fun h => by cases h),fun _ i _ h => by omega⟩,hH⟩
     | succ j =>
       obtain ⟨lb,lo,ea,hLb0,hT⟩ := hPL.1 (by omega)
       subst ea
       have hjl : j < L.length := by omega
       have okp := hok _ (List.getElem_mem hjl)
       obtain ⟨p0,p1,p2,p3,p4,p5,p6,p7,p8⟩ := hT j hjl
       obtain ⟨cv,hcv0⟩ : ∃ cv,cmpK (L[j]'hjl).k x.k = cv := ⟨_,rfl⟩
       have hcv : Hid (∀ h : j < L.length,fD (L[j]'h) x = cv) := Lib.hid (fun _ => hcv0)
       have CP := fun W (y : Ext wo W) => rcmpD_any (L[j]'hjl) x W (okp.ext ((xs.trans y))) (okx.ext ((xs.trans y)))
       rw [hcv0] at CP
       clear hcv0
       generalize L[j]'hjl = p at *
       unfold PtD.v ptV at CP
       replace p0 := (Ext.cell xs hLb0).trans p0
       replace x0 := (Ext.cell xs hpb).trans x0
       replace p1 := (Ext.cell xs hLb0).trans p1
       replace x1 := (Ext.cell xs hpb).trans x1
       replace p2 := (Ext.cell xs hLb0).trans p2
       replace x2 := (Ext.cell xs hpb).trans x2
       replace p3 := (Ext.cell xs hLb0).trans p3
       replace x3 := (Ext.cell xs hpb).trans x3
       replace p4 := (Ext.cell xs hLb0).trans p4
       replace x4 := (Ext.cell xs hpb).trans x4
       replace p5 := (Ext.cell xs hLb0).trans p5
       replace x5 := (Ext.cell xs hpb).trans x5
       replace p6 := (Ext.cell xs hLb0).trans p6
       replace x6 := (Ext.cell xs hpb).trans x6
       replace p7 := (Ext.cell xs hLb0).trans p7
       replace x7 := (Ext.cell xs hpb).trans x7
       replace p8 := (Ext.cell xs hLb0).trans p8
       replace x8 := (Ext.cell xs hpb).trans x8
       have hLb := Nat.lt_of_lt_of_le hLb0 xs.size
       replace hpb := Nat.lt_of_lt_of_le hpb xs.size
       clear c0 c1 c2 c3 c4
       obtain ⟨c0,c1,c2,c3,c4⟩ := gF.cells
       have i1 : IntKind.i64.wrap (j : Int) = (j : Int) := IntWalk.i64_in _ (by have := hLn.out; omega)
       have i2 : (j : Int) < (L.length : Int) := by omega
       have i3 : (0 : Int) < (j : Int) + 1 := by omega
       have i4 : (0 : Int) ≤ (j : Int) + 1 := by omega
       clear hT okp
       go_upto_region 8 with fail
       refine wp_region_held_drew (S := Ext wo) (by kernel_rfl) ((Ext.refl wo).drew) (fun hH => ?_)
       refine tk 0 rfl (by kernel_rfl) (fun _ _ _ h => h) rfl (fun w9 hS9 => by go_simp; (try rfl)) hH ?_
       try simp only [Act.put,aT,aZ,aS]
       refine tk 1 rfl (by kernel_rfl) (fun _ _ _ h => h) rfl (fun w9 hS9 => by go_simp; (try rfl)) hH ?_
       try simp only [Act.put,aT,aZ,aS]
       refine tk 2 rfl (by kernel_rfl) (fun _ _ _ h => h) rfl (fun w9 hS9 => by go_simp; (try rfl)) hH ?_
       try simp only [Act.put,aT,aZ,aS]
       refine tk 3 rfl (by kernel_rfl) (fun _ _ _ h => h) rfl (fun w9 hS9 => by go_simp; (try rfl)) hH ?_
       try simp only [Act.put,aT,aZ,aS]
       refine tk 4 rfl (by kernel_rfl) (fun _ _ _ h => h) rfl (fun w9 hS9 => by go_simp; (try rfl)) hH ?_
       try simp only [Act.put,aT,aZ,aS]
       refine tk 5 rfl (by kernel_rfl) (fun _ _ _ h => h) rfl (fun w9 hS9 => by go_simp; (try rfl)) hH ?_
       try simp only [Act.put,aT,aZ,aS]
       refine tk 6 rfl (by kernel_rfl) (fun _ _ _ h => h) rfl (fun w9 hS9 => by go_simp; (try rfl)) hH ?_
       try simp only [Act.put,aT,aZ,aS]
       refine tk 7 rfl (by kernel_rfl) (fun _ _ _ h => h) rfl (fun w9 hS9 => by replace p0 := (Ext.cell hS9 hLb).trans p0; replace p1 := (Ext.cell hS9 hLb).trans p1; replace p2 := (Ext.cell hS9 hLb).trans p2; replace p3 := (Ext.cell hS9 hLb).trans p3; replace p4 := (Ext.cell hS9 hLb).trans p4; replace p5 := (Ext.cell hS9 hLb).trans p5; replace p6 := (Ext.cell hS9 hLb).trans p6; replace p7 := (Ext.cell hS9 hLb).trans p7; replace p8 := (Ext.cell hS9 hLb).trans p8; go_simp; (try rfl)) hH ?_
       try simp only [Act.put,aT,aZ,aS]
       refine tk 8 rfl (by kernel_rfl) (fun _ _ _ h => h) rfl (fun w9 hS9 => by obtain ⟨c0,c1,c2,c3,c4⟩ := (gF.ext hS9).cells; go_simp; (try rfl)) hH ?_
       try simp only [Act.put,aT,aZ,aS]
       refine tk 9 rfl (by kernel_rfl) (fun _ _ _ h => h) rfl (fun w9 hS9 => by obtain ⟨c0,c1,c2,c3,c4⟩ := (gF.ext hS9).cells; go_simp; (try rfl)) hH ?_
       try simp only [Act.put,aT,aZ,aS]
       refine tk 10 rfl (by kernel_rfl) (fun _ _ _ h => h) rfl (fun w9 hS9 => by obtain ⟨c0,c1,c2,c3,c4⟩ := (gF.ext hS9).cells; go_simp; (try rfl)) hH ?_
       try simp only [Act.put,aT,aZ,aS]
       refine tk 11 rfl (by kernel_rfl) (fun _ _ _ h => h) rfl (fun w9 hS9 => by obtain ⟨c0,c1,c2,c3,c4⟩ := (gF.ext hS9).cells; go_simp; (try rfl)) hH ?_
       try simp only [Act.put,aT,aZ,aS]
       refine tk 12 rfl (by kernel_rfl) (fun _ _ _ h => h) rfl (fun w9 hS9 => by replace x0 := (Ext.cell hS9 hpb).trans x0; replace x1 := (Ext.cell hS9 hpb).trans x1; replace x2 := (Ext.cell hS9 hpb).trans x2; replace x3 := (Ext.cell hS9 hpb).trans x3; replace x4 := (Ext.cell hS9 hpb).trans x4; replace x5 := (Ext.cell hS9 hpb).trans x5; replace x6 := (Ext.cell hS9 hpb).trans x6; replace x7 := (Ext.cell hS9 hpb).trans x7; replace x8 := (Ext.cell hS9 hpb).trans x8; go_simp; (try rfl)) hH ?_
       try simp only [Act.put,aT,aZ,aS]
       refine wR (rs := [13]) (by kernel_rfl) (by simp) (aR rfl (fun K hK => ?_) aN)
       rw [if_pos (by rfl)]
       go_simp
       go_at_call 34
       (with_reducible refine (CP _ hH).mono ?_)
       rintro e wz ⟨rfl,xz⟩
       refine hK.out _ _ (hH.trans xz) (fun hH => ?_)
       clear hK K
       try simp only [aT,aZ,aS]
       refine tk 14 rfl (by kernel_rfl) (fun _ _ _ h => h) rfl (fun w9 hS9 => by go_simp; (try rfl)) hH ?_
       try simp only [Act.put,aT,aZ,aS]
       refine tk 15 rfl (by kernel_rfl) (fun _ _ _ h => h) rfl (fun w9 hS9 => by go_simp; (try rfl)) hH ?_
       try simp only [Act.put,aT,aZ,aS]
       refine wpAnyH_done (by kernel_rfl) ?_ _
       go_wp2_with fail
       go_meet
       case rel =>
        refine ⟨_,rfl,Lib.hid ⟨fun h => ⟨j,hjl,?_⟩,fun h i hi e => ?_⟩,hH⟩
        ·rw [hcv.out hjl]; simpa using h
        ·obtain rfl : i = j := by omega
         have h1 := hG.out.2 i hi rfl
         rw [hcv.out hjl] at h1 ⊢
         have h2 : ¬ cv = 0 := by simpa using h
         omega
    case rest =>
     obtain ⟨b,rfl,hE,xt⟩ := hcut
     rename World => wr
     replace xs := xs.trans xt
     replace gF := gF.ext xt
     replace gZ := gZ.ext xt
     clear c0 c1 c2 c3 c4 xt
     obtain ⟨c0,c1,c2,c3,c4⟩ := gF.cells
     cases b
     rotate_left
     ·have V : Hid (S = none) := Lib.hid (hbad.out (fun M hM => by
       obtain ⟨i,hi,e⟩ := hE.out.1 rfl
       have hk' : k < (fps.map PtD.y).length := by simpa using hlt
       refine put_bad cmpY_cmp (L := L.map PtD.y) (l := fps.map PtD.y) (k := k) (j := i) (by rw [← List.map_take]; exact hQ.out.1.map _) hk' (by simpa using hi) ?_ M hM
       rw [List.getElem_map,List.getElem_map,hx.out]
       exact e))
      have fr := fun o => gZ.free o
      obtain ⟨z0,z1,z2,z3,z4⟩ := gZ.cells
      clear hbad hgood hE hG hQ hO hPL
      go_wp2_with fail
      refine bodyPost_ret (v := .tuple #[.agg #[.string ⟨#[]⟩,.int .i64 0,.string ⟨#[]⟩,.string ⟨#[]⟩,.slice none 0 0],.bool false]) ?_ rfl ⟨⟨FamD.zero,false,rfl,(fun h => absurd h (by simp [FamD.zero])),(by intro p hp; simp [FamD.zero] at hp),(fun h => by cases h),fun _ => ⟨V.out,rfl⟩⟩,?_⟩
      ·simp [results,Tryz.results59,go_sem,z0,z1,z2,z3,z4]
      ·exact ((((((xw.trans (xr.trans xs)).setC (B + 1) 0 _ hwB).setC (B + 1) 1 _ hwB).setC (B + 1) 2 _ hwB).setC (B + 1) 3 _ hwB).setC (B + 1) 4 _ hwB)
     ·have hE2 := hE.out.2 rfl
      have hP3 := put_perm hQ.out.1 hlt j
      rw [hx.out] at hP3
      have hR3 := put_ris fD_cmp hj hQ.out.2 hG.out.1 hE2
      have HH : Hid ((L.take j ++ [x] ++ L.drop j).Perm (fps.take (k + 1)) ∧ Ris fD (L.take j ++ [x] ++ L.drop j)) := Lib.hid ⟨hP3,hR3⟩
      have hO2 := hO.ext xs
      have hPL2 := hPL.ext xs
      replace okx := okx.ext xs
      have hNw : N ≤ wr.heap.size := Nat.le_trans hNq xs.size
      replace x0 := (Ext.cell xs hpb).trans x0
      replace x1 := (Ext.cell xs hpb).trans x1
      replace x2 := (Ext.cell xs hpb).trans x2
      replace x3 := (Ext.cell xs hpb).trans x3
      replace x4 := (Ext.cell xs hpb).trans x4
      replace x5 := (Ext.cell xs hpb).trans x5
      replace x6 := (Ext.cell xs hpb).trans x6
      replace x7 := (Ext.cell xs hpb).trans x7
      replace x8 := (Ext.cell xs hpb).trans x8
      replace hpb := Nat.lt_of_lt_of_le hpb xs.size
      clear hP3 hR3 hE2 hE hG hQ hbad hO hPL hok
      go_upto_region 10 with fail
      rcases hO2 with ⟨hv,h0⟩ | ⟨g,cap',hv,q1,q2,cc,q3,q4,q5⟩
      ·injection hv with e1 e2 e3
       subst e1 e3
       have hL0 : L = [] := List.length_eq_zero_iff.1 h0
       have hj0 : j = 0 := by omega
       have hs1 : ∀ W',Ext wr W' → SrcR 9 PtD.cs PtD.zero (.slice none 0 0) (L.take j) W' := fun _ _ => .inl ⟨by rw [hL0]; simp,none,0,rfl⟩
       have hs2 : ∀ W',Ext wr W' → SrcR 9 PtD.cs PtD.zero (.slice none 0 0) (L.drop j) W' := fun _ _ => .inl ⟨by rw [hL0]; simp,none,0,rfl⟩
       clear hL0 e2 hPL2
       refine wp_region_held_drew (S := Ext wr) (by kernel_rfl) ((Ext.refl wr).drew) (fun hH => ?_)
       refine tk 0 rfl (by kernel_rfl) (fun _ _ _ h => h) rfl (fun w9 hS9 => by go_simp; (try rfl)) hH ?_
       try simp only [Act.put,aT,aZ,aS]
       refine tk 1 rfl (by kernel_rfl) (fun _ _ _ h => h) rfl (fun w9 hS9 => by go_simp; (try rfl)) hH ?_
       try simp only [Act.put,aT,aZ,aS]
       refine tk 2 rfl (by kernel_rfl) (fun _ _ _ h => h) rfl (fun w9 hS9 => by go_simp; (try rfl)) hH ?_
       try simp only [Act.put,aT,aZ,aS]
       refine tk 4 rfl (by kernel_rfl) (fun _ _ _ h => h) rfl (fun w9 hS9 => by obtain ⟨c0,c1,c2,c3,c4⟩ := (gF.ext hS9).cells; go_simp; (try rfl)) hH ?_
       try simp only [Act.put,aT,aZ,aS]
       refine tk 5 rfl (by kernel_rfl) (fun _ _ _ h => h) rfl (fun w9 hS9 => by obtain ⟨c0,c1,c2,c3,c4⟩ := (gF.ext hS9).cells; go_simp; (try rfl)) hH ?_
       try simp only [Act.put,aT,aZ,aS]
       refine tk 6 rfl (by kernel_rfl) (fun _ _ _ h => h) rfl (fun w9 hS9 => by obtain ⟨c0,c1,c2,c3,c4⟩ := (gF.ext hS9).cells; go_simp; (try rfl)) hH ?_
       try simp only [Act.put,aT,aZ,aS]
       refine tk 7 rfl (by kernel_rfl) (fun _ _ _ h => h) rfl (fun w9 hS9 => by obtain ⟨c0,c1,c2,c3,c4⟩ := (gF.ext hS9).cells; go_simp; (try rfl)) hH ?_
       try simp only [Act.put,aT,aZ,aS]
       refine tk 8 rfl (by kernel_rfl) (fun _ _ _ h => h) rfl (fun w9 hS9 => by replace x0 := (Ext.cell hS9 hpb).trans x0; replace x1 := (Ext.cell hS9 hpb).trans x1; replace x2 := (Ext.cell hS9 hpb).trans x2; replace x3 := (Ext.cell hS9 hpb).trans x3; replace x4 := (Ext.cell hS9 hpb).trans x4; replace x5 := (Ext.cell hS9 hpb).trans x5; replace x6 := (Ext.cell hS9 hpb).trans x6; replace x7 := (Ext.cell hS9 hpb).trans x7; replace x8 := (Ext.cell hS9 hpb).trans x8; go_simp; (try rfl)) hH ?_
       try simp only [Act.put,aT,aZ,aS]
       refine tk 11 rfl (by kernel_rfl) (fun _ _ _ h => h) rfl (fun w9 hS9 => by go_simp; (try rfl)) hH ?_
       try simp only [Act.put,aT,aZ,aS]
       refine tk 12 rfl (by kernel_rfl) (fun _ _ _ h => h) rfl (fun w9 hS9 => by go_simp; (try rfl)) hH ?_
       try simp only [Act.put,aT,aZ,aS]
       refine tk 13 rfl (by kernel_rfl) (fun _ _ _ h => h) rfl (fun w9 hS9 => by go_simp; (try rfl)) hH ?_
       try simp only [Act.put,aT,aZ,aS]
       obtain ⟨w0,hw0⟩ : ∃ x,wr.drew = x := ⟨_,rfl⟩
       rw [hw0] at hH ⊢
       clear hw0
       refine wR (rs := [3,9]) (by kernel_rfl) (by simp) (aR rfl (fun K hK => ?km1276A1) (aR rfl (fun K hK => ?km1276BS) aN))
       case km1276A1 =>
        rw [if_pos (by rfl)]
        have ra : OwnR 9 40 PtD.cs wr.heap.size (.slice none 0 0) ([] : List PtD).length (fun i => ([] : List PtD)[i]?.getD PtD.zero) w0 := OwnR.nil _ _ _
        obtain ⟨v1,wA,ea,rb,gb⟩ := app_any tyPt (fun _ => rfl) ptC_one (by decide) w0 33 PtD.zero wr.heap.size _ [] ra hH.size _ (L.take j) (hs1 _ hH) (by have := hLn.out; simp only [List.length_append,List.length_take,List.length_drop,List.length_singleton,List.length_nil]; omega) (by have := hLn.out; simp only [List.length_append,List.length_take,List.length_drop,List.length_singleton,List.length_nil]; omega)
        have hlo : ∀ g,Value.ownBlock (.slice none 0 0) = some g → wr.heap.size ≤ g := fun g hg => (ra.lt g hg).1
        refine Lib.wp_append_run _ _ _ _ _ rfl _ _ rfl rfl v1 wA ea (hK.out _ _ (grown_ext' hH gb (Nat.le_refl _) hlo) (fun hH => ?_))
        clear hK K ea ra hlo
        try simp only [aT,aZ,aS]
        have ra := rb
        clear rb
        have xg : Ext w0 wA := grown_ext' (Ext.refl _) gb (Nat.le_refl _) (fun g hg => by cases hg)
        clear gb
        clear xg
        refine wR (rs := [9]) (by kernel_rfl) (by simp) (aR rfl (fun K hK => ?km1277BS) aN)
        case km1277BS =>
         rw [if_pos (by rfl)]
         go_simp
         refine hK.out _ _ (hH.alloc _) (fun hH => ?_)
         clear hK K
         try simp only [aT,aZ,aS]
         obtain ⟨wS,hwS⟩ : ∃ y,wA.alloc (.cells #[.slice x.a x.l.length x.c,.int .i64 x.r,.bool x.f,.int .i64 x.M,.int .i64 x.S,.int .i64 x.m,.int .i64 x.s,.bool x.t,.int .i64 x.T] 40) = y := ⟨_,rfl⟩
         have xs : Ext wA wS := by rw [← hwS]; exact (Ext.refl _).alloc _
         rw [hwS] at hH ⊢
         have rs : PtsA (some ⟨wA.heap.size,0,none⟩) [x] wS := by rw [← hwS]; exact PtsA.one (heap_last _ _) (by rw [hwS]; exact okx.ext hH)
         clear hwS
         replace ra := ra.ext xs
         clear xs
         refine wR (rs := [10]) (by kernel_rfl) (by simp) (aR rfl (fun K hK => ?km1278A2) aN)
         case km1278A2 =>
          rw [if_pos (by rfl)]
          obtain ⟨v2,wB,ea,rb,gb⟩ := app_any tyPt (fun _ => rfl) ptC_one (by decide) wS 33 PtD.zero wr.heap.size _ ([] ++ L.take j) ra hH.size _ [x] (.inr ⟨_,_,rfl,PtsA.src rs⟩) (by have := hLn.out; simp only [List.length_append,List.length_take,List.length_drop,List.length_singleton,List.length_nil]; omega) (by have := hLn.out; simp only [List.length_append,List.length_take,List.length_drop,List.length_singleton,List.length_nil]; omega)
          have hlo : ∀ g,Value.ownBlock v1 = some g → wr.heap.size ≤ g := fun g hg => (ra.lt g hg).1
          refine Lib.wp_append_run _ _ _ _ _ rfl _ _ rfl rfl v2 wB ea (hK.out _ _ (grown_ext' hH gb (Nat.le_refl _) hlo) (fun hH => ?_))
          clear hK K ea ra hlo
          try simp only [aT,aZ,aS]
          have ra := rb
          clear rb
          clear gb
          refine wR (rs := [14]) (by kernel_rfl) (by simp) (aR rfl (fun K hK => ?km1279A3) aN)
          case km1279A3 =>
           rw [if_pos (by rfl)]
           obtain ⟨v3,wC,ea,rb,gb⟩ := app_any tyPt (fun _ => rfl) ptC_one (by decide) wB 33 PtD.zero wr.heap.size _ ([] ++ L.take j ++ [x]) ra hH.size _ (L.drop j) (hs2 _ hH) (by have := hLn.out; simp only [List.length_append,List.length_take,List.length_drop,List.length_singleton,List.length_nil]; omega) (by have := hLn.out; simp only [List.length_append,List.length_take,List.length_drop,List.length_singleton,List.length_nil]; omega)
           have hlo : ∀ g,Value.ownBlock v2 = some g → wr.heap.size ≤ g := fun g hg => (ra.lt g hg).1
           refine Lib.wp_append_run _ _ _ _ _ rfl _ _ rfl rfl v3 wC ea (hK.out _ _ (grown_ext' hH gb (Nat.le_refl _) hlo) (fun hH => ?_))
           clear hK K ea ra hlo
           try simp only [aT,aZ,aS]
           have ra := rb
           clear rb
           clear gb
           refine tk 15 rfl (by kernel_rfl) (fun _ _ _ h => h) rfl (fun w9 hS9 => by go_simp; (try rfl)) hH ?_
           try simp only [Act.put,aT,aZ,aS]
           refine wpAnyH_done (by kernel_rfl) ?_ _
           go_wp2_with fail
           go_roundw
           case rel => exact ⟨k + 1,_,rfl,hlt,ra.mono hNw,HH,xr.trans (xs.trans hH)⟩
           case measure => simp only [intOf]; omega
       case km1276BS =>
        rw [if_pos (by rfl)]
        go_simp
        refine hK.out _ _ (hH.alloc _) (fun hH => ?_)
        clear hK K
        try simp only [aT,aZ,aS]
        obtain ⟨wS,hwS⟩ : ∃ y,w0.alloc (.cells #[.slice x.a x.l.length x.c,.int .i64 x.r,.bool x.f,.int .i64 x.M,.int .i64 x.S,.int .i64 x.m,.int .i64 x.s,.bool x.t,.int .i64 x.T] 40) = y := ⟨_,rfl⟩
        have xs : Ext w0 wS := by rw [← hwS]; exact (Ext.refl _).alloc _
        rw [hwS] at hH ⊢
        have rs : PtsA (some ⟨w0.heap.size,0,none⟩) [x] wS := by rw [← hwS]; exact PtsA.one (heap_last _ _) (by rw [hwS]; exact okx.ext hH)
        clear hwS
        clear xs
        refine wR (rs := [3]) (by kernel_rfl) (by simp) (aR rfl (fun K hK => ?km1281A1) aN)
        case km1281A1 =>
         rw [if_pos (by rfl)]
         have ra : OwnR 9 40 PtD.cs wr.heap.size (.slice none 0 0) ([] : List PtD).length (fun i => ([] : List PtD)[i]?.getD PtD.zero) wS := OwnR.nil _ _ _
         obtain ⟨v1,wA,ea,rb,gb⟩ := app_any tyPt (fun _ => rfl) ptC_one (by decide) wS 33 PtD.zero wr.heap.size _ [] ra hH.size _ (L.take j) (hs1 _ hH) (by have := hLn.out; simp only [List.length_append,List.length_take,List.length_drop,List.length_singleton,List.length_nil]; omega) (by have := hLn.out; simp only [List.length_append,List.length_take,List.length_drop,List.length_singleton,List.length_nil]; omega)
         have hlo : ∀ g,Value.ownBlock (.slice none 0 0) = some g → wr.heap.size ≤ g := fun g hg => (ra.lt g hg).1
         refine Lib.wp_append_run _ _ _ _ _ rfl _ _ rfl rfl v1 wA ea (hK.out _ _ (grown_ext' hH gb (Nat.le_refl _) hlo) (fun hH => ?_))
         clear hK K ea ra hlo
         try simp only [aT,aZ,aS]
         have ra := rb
         clear rb
         have xg : Ext wS wA := grown_ext' (Ext.refl _) gb (Nat.le_refl _) (fun g hg => by cases hg)
         clear gb
         replace rs := rs.ext xg
         clear xg
         refine wR (rs := [10]) (by kernel_rfl) (by simp) (aR rfl (fun K hK => ?km1282A2) aN)
         case km1282A2 =>
          rw [if_pos (by rfl)]
          obtain ⟨v2,wB,ea,rb,gb⟩ := app_any tyPt (fun _ => rfl) ptC_one (by decide) wA 33 PtD.zero wr.heap.size _ ([] ++ L.take j) ra hH.size _ [x] (.inr ⟨_,_,rfl,PtsA.src rs⟩) (by have := hLn.out; simp only [List.length_append,List.length_take,List.length_drop,List.length_singleton,List.length_nil]; omega) (by have := hLn.out; simp only [List.length_append,List.length_take,List.length_drop,List.length_singleton,List.length_nil]; omega)
          have hlo : ∀ g,Value.ownBlock v1 = some g → wr.heap.size ≤ g := fun g hg => (ra.lt g hg).1
          refine Lib.wp_append_run _ _ _ _ _ rfl _ _ rfl rfl v2 wB ea (hK.out _ _ (grown_ext' hH gb (Nat.le_refl _) hlo) (fun hH => ?_))
          clear hK K ea ra hlo
          try simp only [aT,aZ,aS]
          have ra := rb
          clear rb
          clear gb
          refine wR (rs := [14]) (by kernel_rfl) (by simp) (aR rfl (fun K hK => ?km1283A3) aN)
          case km1283A3 =>
           rw [if_pos (by rfl)]
           obtain ⟨v3,wC,ea,rb,gb⟩ := app_any tyPt (fun _ => rfl) ptC_one (by decide) wB 33 PtD.zero wr.heap.size _ ([] ++ L.take j ++ [x]) ra hH.size _ (L.drop j) (hs2 _ hH) (by have := hLn.out; simp only [List.length_append,List.length_take,List.length_drop,List.length_singleton,List.length_nil]; omega) (by have := hLn.out; simp only [List.length_append,List.length_take,List.length_drop,List.length_singleton,List.length_nil]; omega)
           have hlo : ∀ g,Value.ownBlock v2 = some g → wr.heap.size ≤ g := fun g hg => (ra.lt g hg).1
           refine Lib.wp_append_run _ _ _ _ _ rfl _ _ rfl rfl v3 wC ea (hK.out _ _ (grown_ext' hH gb (Nat.le_refl _) hlo) (fun hH => ?_))
           clear hK K ea ra hlo
           try simp only [aT,aZ,aS]
           have ra := rb
           clear rb
           clear gb
           refine tk 15 rfl (by kernel_rfl) (fun _ _ _ h => h) rfl (fun w9 hS9 => by go_simp; (try rfl)) hH ?_
           try simp only [Act.put,aT,aZ,aS]
           refine wpAnyH_done (by kernel_rfl) ?_ _
           go_wp2_with fail
           go_roundw
           case rel => exact ⟨k + 1,_,rfl,hlt,ra.mono hNw,HH,xr.trans (xs.trans hH)⟩
           case measure => simp only [intOf]; omega
      ·injection hv with e1 e2 e3
       subst e1 e3
       have hs1 : ∀ W',Ext wr W' → SrcR 9 PtD.cs PtD.zero (.slice (some ⟨g,0,none⟩) j cap) (L.take j) W' := fun W' e => .inr ⟨_,_,by rw [List.length_take,Nat.min_eq_left hj],PtsA.src ((hPL2.ext e).upto j)⟩
       have je : (j : Int) ≤ (L.length : Int) := by omega
       have jc : (j : Int) ≤ (cap : Int) := by omega
       by_cases hjc : cap = j
       ·have hs2 : ∀ W',Ext wr W' → SrcR 9 PtD.cs PtD.zero (.slice (some ⟨g,0,none⟩) 0 0) (L.drop j) W' := fun W' e => .inl ⟨List.drop_eq_nil_of_le (by omega),_,_,rfl⟩
        have hLj : L.length = j := by omega
        have hjc2 : j = cap := hjc.symm
        subst hjc2
        clear q1 q3 q4 q5 hPL2 e2
        refine wp_region_held_drew (S := Ext wr) (by kernel_rfl) ((Ext.refl wr).drew) (fun hH => ?_)
        refine tk 0 rfl (by kernel_rfl) (fun _ _ _ h => h) rfl (fun w9 hS9 => by go_simp; (try rfl)) hH ?_
        try simp only [Act.put,aT,aZ,aS]
        refine tk 1 rfl (by kernel_rfl) (fun _ _ _ h => h) rfl (fun w9 hS9 => by go_simp; (try rfl)) hH ?_
        try simp only [Act.put,aT,aZ,aS]
        refine tk 2 rfl (by kernel_rfl) (fun _ _ _ h => h) rfl (fun w9 hS9 => by go_simp; (try rfl)) hH ?_
        try simp only [Act.put,aT,aZ,aS]
        refine tk 4 rfl (by kernel_rfl) (fun _ _ _ h => h) rfl (fun w9 hS9 => by obtain ⟨c0,c1,c2,c3,c4⟩ := (gF.ext hS9).cells; go_simp; (try rfl)) hH ?_
        try simp only [Act.put,aT,aZ,aS]
        refine tk 5 rfl (by kernel_rfl) (fun _ _ _ h => h) rfl (fun w9 hS9 => by obtain ⟨c0,c1,c2,c3,c4⟩ := (gF.ext hS9).cells; go_simp; (try rfl)) hH ?_
        try simp only [Act.put,aT,aZ,aS]
        refine tk 6 rfl (by kernel_rfl) (fun _ _ _ h => h) rfl (fun w9 hS9 => by obtain ⟨c0,c1,c2,c3,c4⟩ := (gF.ext hS9).cells; go_simp; (try rfl)) hH ?_
        try simp only [Act.put,aT,aZ,aS]
        refine tk 7 rfl (by kernel_rfl) (fun _ _ _ h => h) rfl (fun w9 hS9 => by obtain ⟨c0,c1,c2,c3,c4⟩ := (gF.ext hS9).cells; go_simp; (try rfl)) hH ?_
        try simp only [Act.put,aT,aZ,aS]
        refine tk 8 rfl (by kernel_rfl) (fun _ _ _ h => h) rfl (fun w9 hS9 => by replace x0 := (Ext.cell hS9 hpb).trans x0; replace x1 := (Ext.cell hS9 hpb).trans x1; replace x2 := (Ext.cell hS9 hpb).trans x2; replace x3 := (Ext.cell hS9 hpb).trans x3; replace x4 := (Ext.cell hS9 hpb).trans x4; replace x5 := (Ext.cell hS9 hpb).trans x5; replace x6 := (Ext.cell hS9 hpb).trans x6; replace x7 := (Ext.cell hS9 hpb).trans x7; replace x8 := (Ext.cell hS9 hpb).trans x8; go_simp; (try rfl)) hH ?_
        try simp only [Act.put,aT,aZ,aS]
        refine tk 11 rfl (by kernel_rfl) (fun _ _ _ h => h) rfl (fun w9 hS9 => by go_simp; (try rfl)) hH ?_
        try simp only [Act.put,aT,aZ,aS]
        refine tk 12 rfl (by kernel_rfl) (fun _ _ _ h => h) rfl (fun w9 hS9 => by go_simp; (try rfl)) hH ?_
        try simp only [Act.put,aT,aZ,aS]
        refine tk 13 rfl (by kernel_rfl) (fun _ _ _ h => h) rfl (fun w9 hS9 => by go_simp; (try rfl)) hH ?_
        try simp only [Act.put,aT,aZ,aS]
        obtain ⟨w0,hw0⟩ : ∃ x,wr.drew = x := ⟨_,rfl⟩
        rw [hw0] at hH ⊢
        clear hw0
        refine wR (rs := [3,9]) (by kernel_rfl) (by simp) (aR rfl (fun K hK => ?km1296A1) (aR rfl (fun K hK => ?km1296BS) aN))
        case km1296A1 =>
         rw [if_pos (by rfl)]
         have ra : OwnR 9 40 PtD.cs wr.heap.size (.slice none 0 0) ([] : List PtD).length (fun i => ([] : List PtD)[i]?.getD PtD.zero) w0 := OwnR.nil _ _ _
         obtain ⟨v1,wA,ea,rb,gb⟩ := app_any tyPt (fun _ => rfl) ptC_one (by decide) w0 33 PtD.zero wr.heap.size _ [] ra hH.size _ (L.take j) (hs1 _ hH) (by have := hLn.out; simp only [List.length_append,List.length_take,List.length_drop,List.length_singleton,List.length_nil]; omega) (by have := hLn.out; simp only [List.length_append,List.length_take,List.length_drop,List.length_singleton,List.length_nil]; omega)
         have hlo : ∀ g,Value.ownBlock (.slice none 0 0) = some g → wr.heap.size ≤ g := fun g hg => (ra.lt g hg).1
         refine Lib.wp_append_run _ _ _ _ _ rfl _ _ rfl rfl v1 wA ea (hK.out _ _ (grown_ext' hH gb (Nat.le_refl _) hlo) (fun hH => ?_))
         clear hK K ea ra hlo
         try simp only [aT,aZ,aS]
         have ra := rb
         clear rb
         have xg : Ext w0 wA := grown_ext' (Ext.refl _) gb (Nat.le_refl _) (fun g hg => by cases hg)
         clear gb
         clear xg
         refine wR (rs := [9]) (by kernel_rfl) (by simp) (aR rfl (fun K hK => ?km1297BS) aN)
         case km1297BS =>
          rw [if_pos (by rfl)]
          go_simp
          refine hK.out _ _ (hH.alloc _) (fun hH => ?_)
          clear hK K
          try simp only [aT,aZ,aS]
          obtain ⟨wS,hwS⟩ : ∃ y,wA.alloc (.cells #[.slice x.a x.l.length x.c,.int .i64 x.r,.bool x.f,.int .i64 x.M,.int .i64 x.S,.int .i64 x.m,.int .i64 x.s,.bool x.t,.int .i64 x.T] 40) = y := ⟨_,rfl⟩
          have xs : Ext wA wS := by rw [← hwS]; exact (Ext.refl _).alloc _
          rw [hwS] at hH ⊢
          have rs : PtsA (some ⟨wA.heap.size,0,none⟩) [x] wS := by rw [← hwS]; exact PtsA.one (heap_last _ _) (by rw [hwS]; exact okx.ext hH)
          clear hwS
          replace ra := ra.ext xs
          clear xs
          refine wR (rs := [10]) (by kernel_rfl) (by simp) (aR rfl (fun K hK => ?km1298A2) aN)
          case km1298A2 =>
           rw [if_pos (by rfl)]
           obtain ⟨v2,wB,ea,rb,gb⟩ := app_any tyPt (fun _ => rfl) ptC_one (by decide) wS 33 PtD.zero wr.heap.size _ ([] ++ L.take j) ra hH.size _ [x] (.inr ⟨_,_,rfl,PtsA.src rs⟩) (by have := hLn.out; simp only [List.length_append,List.length_take,List.length_drop,List.length_singleton,List.length_nil]; omega) (by have := hLn.out; simp only [List.length_append,List.length_take,List.length_drop,List.length_singleton,List.length_nil]; omega)
           have hlo : ∀ g,Value.ownBlock v1 = some g → wr.heap.size ≤ g := fun g hg => (ra.lt g hg).1
           refine Lib.wp_append_run _ _ _ _ _ rfl _ _ rfl rfl v2 wB ea (hK.out _ _ (grown_ext' hH gb (Nat.le_refl _) hlo) (fun hH => ?_))
           clear hK K ea ra hlo
           try simp only [aT,aZ,aS]
           have ra := rb
           clear rb
           clear gb
           refine wR (rs := [14]) (by kernel_rfl) (by simp) (aR rfl (fun K hK => ?km1299A3) aN)
           case km1299A3 =>
            rw [if_pos (by rfl)]
            obtain ⟨v3,wC,ea,rb,gb⟩ := app_any tyPt (fun _ => rfl) ptC_one (by decide) wB 33 PtD.zero wr.heap.size _ ([] ++ L.take j ++ [x]) ra hH.size _ (L.drop j) (hs2 _ hH) (by have := hLn.out; simp only [List.length_append,List.length_take,List.length_drop,List.length_singleton,List.length_nil]; omega) (by have := hLn.out; simp only [List.length_append,List.length_take,List.length_drop,List.length_singleton,List.length_nil]; omega)
            have hlo : ∀ g,Value.ownBlock v2 = some g → wr.heap.size ≤ g := fun g hg => (ra.lt g hg).1
            refine Lib.wp_append_run _ _ _ _ _ rfl _ _ rfl rfl v3 wC ea (hK.out _ _ (grown_ext' hH gb (Nat.le_refl _) hlo) (fun hH => ?_))
            clear hK K ea ra hlo
            try simp only [aT,aZ,aS]
            have ra := rb
            clear rb
            clear gb
            refine tk 15 rfl (by kernel_rfl) (fun _ _ _ h => h) rfl (fun w9 hS9 => by go_simp; (try rfl)) hH ?_
            try simp only [Act.put,aT,aZ,aS]
            refine wpAnyH_done (by kernel_rfl) ?_ _
            go_wp2_with fail
            go_roundw
            case rel => exact ⟨k + 1,_,rfl,hlt,ra.mono hNw,HH,xr.trans (xs.trans hH)⟩
            case measure => simp only [intOf]; omega
        case km1296BS =>
         rw [if_pos (by rfl)]
         go_simp
         refine hK.out _ _ (hH.alloc _) (fun hH => ?_)
         clear hK K
         try simp only [aT,aZ,aS]
         obtain ⟨wS,hwS⟩ : ∃ y,w0.alloc (.cells #[.slice x.a x.l.length x.c,.int .i64 x.r,.bool x.f,.int .i64 x.M,.int .i64 x.S,.int .i64 x.m,.int .i64 x.s,.bool x.t,.int .i64 x.T] 40) = y := ⟨_,rfl⟩
         have xs : Ext w0 wS := by rw [← hwS]; exact (Ext.refl _).alloc _
         rw [hwS] at hH ⊢
         have rs : PtsA (some ⟨w0.heap.size,0,none⟩) [x] wS := by rw [← hwS]; exact PtsA.one (heap_last _ _) (by rw [hwS]; exact okx.ext hH)
         clear hwS
         clear xs
         refine wR (rs := [3]) (by kernel_rfl) (by simp) (aR rfl (fun K hK => ?km1301A1) aN)
         case km1301A1 =>
          rw [if_pos (by rfl)]
          have ra : OwnR 9 40 PtD.cs wr.heap.size (.slice none 0 0) ([] : List PtD).length (fun i => ([] : List PtD)[i]?.getD PtD.zero) wS := OwnR.nil _ _ _
          obtain ⟨v1,wA,ea,rb,gb⟩ := app_any tyPt (fun _ => rfl) ptC_one (by decide) wS 33 PtD.zero wr.heap.size _ [] ra hH.size _ (L.take j) (hs1 _ hH) (by have := hLn.out; simp only [List.length_append,List.length_take,List.length_drop,List.length_singleton,List.length_nil]; omega) (by have := hLn.out; simp only [List.length_append,List.length_take,List.length_drop,List.length_singleton,List.length_nil]; omega)
          have hlo : ∀ g,Value.ownBlock (.slice none 0 0) = some g → wr.heap.size ≤ g := fun g hg => (ra.lt g hg).1
          refine Lib.wp_append_run _ _ _ _ _ rfl _ _ rfl rfl v1 wA ea (hK.out _ _ (grown_ext' hH gb (Nat.le_refl _) hlo) (fun hH => ?_))
          clear hK K ea ra hlo
          try simp only [aT,aZ,aS]
          have ra := rb
          clear rb
          have xg : Ext wS wA := grown_ext' (Ext.refl _) gb (Nat.le_refl _) (fun g hg => by cases hg)
          clear gb
          replace rs := rs.ext xg
          clear xg
          refine wR (rs := [10]) (by kernel_rfl) (by simp) (aR rfl (fun K hK => ?km1302A2) aN)
          case km1302A2 =>
           rw [if_pos (by rfl)]
           obtain ⟨v2,wB,ea,rb,gb⟩ := app_any tyPt (fun _ => rfl) ptC_one (by decide) wA 33 PtD.zero wr.heap.size _ ([] ++ L.take j) ra hH.size _ [x] (.inr ⟨_,_,rfl,PtsA.src rs⟩) (by have := hLn.out; simp only [List.length_append,List.length_take,List.length_drop,List.length_singleton,List.length_nil]; omega) (by have := hLn.out; simp only [List.length_append,List.length_take,List.length_drop,List.length_singleton,List.length_nil]; omega)
           have hlo : ∀ g,Value.ownBlock v1 = some g → wr.heap.size ≤ g := fun g hg => (ra.lt g hg).1
           refine Lib.wp_append_run _ _ _ _ _ rfl _ _ rfl rfl v2 wB ea (hK.out _ _ (grown_ext' hH gb (Nat.le_refl _) hlo) (fun hH => ?_))
           clear hK K ea ra hlo
           try simp only [aT,aZ,aS]
           have ra := rb
           clear rb
           clear gb
           refine wR (rs := [14]) (by kernel_rfl) (by simp) (aR rfl (fun K hK => ?km1303A3) aN)
           case km1303A3 =>
            rw [if_pos (by rfl)]
            obtain ⟨v3,wC,ea,rb,gb⟩ := app_any tyPt (fun _ => rfl) ptC_one (by decide) wB 33 PtD.zero wr.heap.size _ ([] ++ L.take j ++ [x]) ra hH.size _ (L.drop j) (hs2 _ hH) (by have := hLn.out; simp only [List.length_append,List.length_take,List.length_drop,List.length_singleton,List.length_nil]; omega) (by have := hLn.out; simp only [List.length_append,List.length_take,List.length_drop,List.length_singleton,List.length_nil]; omega)
            have hlo : ∀ g,Value.ownBlock v2 = some g → wr.heap.size ≤ g := fun g hg => (ra.lt g hg).1
            refine Lib.wp_append_run _ _ _ _ _ rfl _ _ rfl rfl v3 wC ea (hK.out _ _ (grown_ext' hH gb (Nat.le_refl _) hlo) (fun hH => ?_))
            clear hK K ea ra hlo
            try simp only [aT,aZ,aS]
            have ra := rb
            clear rb
            clear gb
            refine tk 15 rfl (by kernel_rfl) (fun _ _ _ h => h) rfl (fun w9 hS9 => by go_simp; (try rfl)) hH ?_
            try simp only [Act.put,aT,aZ,aS]
            refine wpAnyH_done (by kernel_rfl) ?_ _
            go_wp2_with fail
            go_roundw
            case rel => exact ⟨k + 1,_,rfl,hlt,ra.mono hNw,HH,xr.trans (xs.trans hH)⟩
            case measure => simp only [intOf]; omega
       ·have hs2 : ∀ W',Ext wr W' → SrcR 9 PtD.cs PtD.zero (.slice (some ⟨g,j * 9,none⟩) (L.length - j) (cap - j)) (L.drop j) W' := fun W' e => by
         have h1 := (hPL2.ext e).from j
         rw [Nat.zero_add] at h1
         exact .inr ⟨_,_,by rw [List.length_drop],PtsA.src h1⟩
        have jc2 : (j : Int) < (cap : Int) := by omega
        clear q1 q3 q4 q5 hPL2 e2
        refine wp_region_held_drew (S := Ext wr) (by kernel_rfl) ((Ext.refl wr).drew) (fun hH => ?_)
        refine tk 0 rfl (by kernel_rfl) (fun _ _ _ h => h) rfl (fun w9 hS9 => by go_simp; (try rfl)) hH ?_
        try simp only [Act.put,aT,aZ,aS]
        refine tk 1 rfl (by kernel_rfl) (fun _ _ _ h => h) rfl (fun w9 hS9 => by go_simp; (try rfl)) hH ?_
        try simp only [Act.put,aT,aZ,aS]
        refine tk 2 rfl (by kernel_rfl) (fun _ _ _ h => h) rfl (fun w9 hS9 => by go_simp; (try rfl)) hH ?_
        try simp only [Act.put,aT,aZ,aS]
        refine tk 4 rfl (by kernel_rfl) (fun _ _ _ h => h) rfl (fun w9 hS9 => by obtain ⟨c0,c1,c2,c3,c4⟩ := (gF.ext hS9).cells; go_simp; (try rfl)) hH ?_
        try simp only [Act.put,aT,aZ,aS]
        refine tk 5 rfl (by kernel_rfl) (fun _ _ _ h => h) rfl (fun w9 hS9 => by obtain ⟨c0,c1,c2,c3,c4⟩ := (gF.ext hS9).cells; go_simp; (try rfl)) hH ?_
        try simp only [Act.put,aT,aZ,aS]
        refine tk 6 rfl (by kernel_rfl) (fun _ _ _ h => h) rfl (fun w9 hS9 => by obtain ⟨c0,c1,c2,c3,c4⟩ := (gF.ext hS9).cells; go_simp; (try rfl)) hH ?_
        try simp only [Act.put,aT,aZ,aS]
        refine tk 7 rfl (by kernel_rfl) (fun _ _ _ h => h) rfl (fun w9 hS9 => by obtain ⟨c0,c1,c2,c3,c4⟩ := (gF.ext hS9).cells; go_simp; (try rfl)) hH ?_
        try simp only [Act.put,aT,aZ,aS]
        refine tk 8 rfl (by kernel_rfl) (fun _ _ _ h => h) rfl (fun w9 hS9 => by replace x0 := (Ext.cell hS9 hpb).trans x0; replace x1 := (Ext.cell hS9 hpb).trans x1; replace x2 := (Ext.cell hS9 hpb).trans x2; replace x3 := (Ext.cell hS9 hpb).trans x3; replace x4 := (Ext.cell hS9 hpb).trans x4; replace x5 := (Ext.cell hS9 hpb).trans x5; replace x6 := (Ext.cell hS9 hpb).trans x6; replace x7 := (Ext.cell hS9 hpb).trans x7; replace x8 := (Ext.cell hS9 hpb).trans x8; go_simp; (try rfl)) hH ?_
        try simp only [Act.put,aT,aZ,aS]
        refine tk 11 rfl (by kernel_rfl) (fun _ _ _ h => h) rfl (fun w9 hS9 => by go_simp; (try rfl)) hH ?_
        try simp only [Act.put,aT,aZ,aS]
        refine tk 12 rfl (by kernel_rfl) (fun _ _ _ h => h) rfl (fun w9 hS9 => by go_simp; (try rfl)) hH ?_
        try simp only [Act.put,aT,aZ,aS]
        refine tk 13 rfl (by kernel_rfl) (fun _ _ _ h => h) rfl (fun w9 hS9 => by go_simp; (try rfl)) hH ?_
        try simp only [Act.put,aT,aZ,aS]
        obtain ⟨w0,hw0⟩ : ∃ x,wr.drew = x := ⟨_,rfl⟩
        rw [hw0] at hH ⊢
        clear hw0
        refine wR (rs := [3,9]) (by kernel_rfl) (by simp) (aR rfl (fun K hK => ?km1316A1) (aR rfl (fun K hK => ?km1316BS) aN))
        case km1316A1 =>
         rw [if_pos (by rfl)]
         have ra : OwnR 9 40 PtD.cs wr.heap.size (.slice none 0 0) ([] : List PtD).length (fun i => ([] : List PtD)[i]?.getD PtD.zero) w0 := OwnR.nil _ _ _
         obtain ⟨v1,wA,ea,rb,gb⟩ := app_any tyPt (fun _ => rfl) ptC_one (by decide) w0 33 PtD.zero wr.heap.size _ [] ra hH.size _ (L.take j) (hs1 _ hH) (by have := hLn.out; simp only [List.length_append,List.length_take,List.length_drop,List.length_singleton,List.length_nil]; omega) (by have := hLn.out; simp only [List.length_append,List.length_take,List.length_drop,List.length_singleton,List.length_nil]; omega)
         have hlo : ∀ g,Value.ownBlock (.slice none 0 0) = some g → wr.heap.size ≤ g := fun g hg => (ra.lt g hg).1
         refine Lib.wp_append_run _ _ _ _ _ rfl _ _ rfl rfl v1 wA ea (hK.out _ _ (grown_ext' hH gb (Nat.le_refl _) hlo) (fun hH => ?_))
         clear hK K ea ra hlo
         try simp only [aT,aZ,aS]
         have ra := rb
         clear rb
         have xg : Ext w0 wA := grown_ext' (Ext.refl _) gb (Nat.le_refl _) (fun g hg => by cases hg)
         clear gb
         clear xg
         refine wR (rs := [9]) (by kernel_rfl) (by simp) (aR rfl (fun K hK => ?km1317BS) aN)
         case km1317BS =>
          rw [if_pos (by rfl)]
          go_simp
          refine hK.out _ _ (hH.alloc _) (fun hH => ?_)
          clear hK K
          try simp only [aT,aZ,aS]
          obtain ⟨wS,hwS⟩ : ∃ y,wA.alloc (.cells #[.slice x.a x.l.length x.c,.int .i64 x.r,.bool x.f,.int .i64 x.M,.int .i64 x.S,.int .i64 x.m,.int .i64 x.s,.bool x.t,.int .i64 x.T] 40) = y := ⟨_,rfl⟩
          have xs : Ext wA wS := by rw [← hwS]; exact (Ext.refl _).alloc _
          rw [hwS] at hH ⊢
          have rs : PtsA (some ⟨wA.heap.size,0,none⟩) [x] wS := by rw [← hwS]; exact PtsA.one (heap_last _ _) (by rw [hwS]; exact okx.ext hH)
          clear hwS
          replace ra := ra.ext xs
          clear xs
          refine wR (rs := [10]) (by kernel_rfl) (by simp) (aR rfl (fun K hK => ?km1318A2) aN)
          case km1318A2 =>
           rw [if_pos (by rfl)]
           obtain ⟨v2,wB,ea,rb,gb⟩ := app_any tyPt (fun _ => rfl) ptC_one (by decide) wS 33 PtD.zero wr.heap.size _ ([] ++ L.take j) ra hH.size _ [x] (.inr ⟨_,_,rfl,PtsA.src rs⟩) (by have := hLn.out; simp only [List.length_append,List.length_take,List.length_drop,List.length_singleton,List.length_nil]; omega) (by have := hLn.out; simp only [List.length_append,List.length_take,List.length_drop,List.length_singleton,List.length_nil]; omega)
           have hlo : ∀ g,Value.ownBlock v1 = some g → wr.heap.size ≤ g := fun g hg => (ra.lt g hg).1
           refine Lib.wp_append_run _ _ _ _ _ rfl _ _ rfl rfl v2 wB ea (hK.out _ _ (grown_ext' hH gb (Nat.le_refl _) hlo) (fun hH => ?_))
           clear hK K ea ra hlo
           try simp only [aT,aZ,aS]
           have ra := rb
           clear rb
           clear gb
           refine wR (rs := [14]) (by kernel_rfl) (by simp) (aR rfl (fun K hK => ?km1319A3) aN)
           case km1319A3 =>
            rw [if_pos (by rfl)]
            obtain ⟨v3,wC,ea,rb,gb⟩ := app_any tyPt (fun _ => rfl) ptC_one (by decide) wB 33 PtD.zero wr.heap.size _ ([] ++ L.take j ++ [x]) ra hH.size _ (L.drop j) (hs2 _ hH) (by have := hLn.out; simp only [List.length_append,List.length_take,List.length_drop,List.length_singleton,List.length_nil]; omega) (by have := hLn.out; simp only [List.length_append,List.length_take,List.length_drop,List.length_singleton,List.length_nil]; omega)
            have hlo : ∀ g,Value.ownBlock v2 = some g → wr.heap.size ≤ g := fun g hg => (ra.lt g hg).1
            refine Lib.wp_append_run _ _ _ _ _ rfl _ _ rfl rfl v3 wC ea (hK.out _ _ (grown_ext' hH gb (Nat.le_refl _) hlo) (fun hH => ?_))
            clear hK K ea ra hlo
            try simp only [aT,aZ,aS]
            have ra := rb
            clear rb
            clear gb
            refine tk 15 rfl (by kernel_rfl) (fun _ _ _ h => h) rfl (fun w9 hS9 => by go_simp; (try rfl)) hH ?_
            try simp only [Act.put,aT,aZ,aS]
            refine wpAnyH_done (by kernel_rfl) ?_ _
            go_wp2_with fail
            go_roundw
            case rel => exact ⟨k + 1,_,rfl,hlt,ra.mono hNw,HH,xr.trans (xs.trans hH)⟩
            case measure => simp only [intOf]; omega
        case km1316BS =>
         rw [if_pos (by rfl)]
         go_simp
         refine hK.out _ _ (hH.alloc _) (fun hH => ?_)
         clear hK K
         try simp only [aT,aZ,aS]
         obtain ⟨wS,hwS⟩ : ∃ y,w0.alloc (.cells #[.slice x.a x.l.length x.c,.int .i64 x.r,.bool x.f,.int .i64 x.M,.int .i64 x.S,.int .i64 x.m,.int .i64 x.s,.bool x.t,.int .i64 x.T] 40) = y := ⟨_,rfl⟩
         have xs : Ext w0 wS := by rw [← hwS]; exact (Ext.refl _).alloc _
         rw [hwS] at hH ⊢
         have rs : PtsA (some ⟨w0.heap.size,0,none⟩) [x] wS := by rw [← hwS]; exact PtsA.one (heap_last _ _) (by rw [hwS]; exact okx.ext hH)
         clear hwS
         clear xs
         refine wR (rs := [3]) (by kernel_rfl) (by simp) (aR rfl (fun K hK => ?km1321A1) aN)
         case km1321A1 =>
          rw [if_pos (by rfl)]
          have ra : OwnR 9 40 PtD.cs wr.heap.size (.slice none 0 0) ([] : List PtD).length (fun i => ([] : List PtD)[i]?.getD PtD.zero) wS := OwnR.nil _ _ _
          obtain ⟨v1,wA,ea,rb,gb⟩ := app_any tyPt (fun _ => rfl) ptC_one (by decide) wS 33 PtD.zero wr.heap.size _ [] ra hH.size _ (L.take j) (hs1 _ hH) (by have := hLn.out; simp only [List.length_append,List.length_take,List.length_drop,List.length_singleton,List.length_nil]; omega) (by have := hLn.out; simp only [List.length_append,List.length_take,List.length_drop,List.length_singleton,List.length_nil]; omega)
          have hlo : ∀ g,Value.ownBlock (.slice none 0 0) = some g → wr.heap.size ≤ g := fun g hg => (ra.lt g hg).1
          refine Lib.wp_append_run _ _ _ _ _ rfl _ _ rfl rfl v1 wA ea (hK.out _ _ (grown_ext' hH gb (Nat.le_refl _) hlo) (fun hH => ?_))
          clear hK K ea ra hlo
          try simp only [aT,aZ,aS]
          have ra := rb
          clear rb
          have xg : Ext wS wA := grown_ext' (Ext.refl _) gb (Nat.le_refl _) (fun g hg => by cases hg)
          clear gb
          replace rs := rs.ext xg
          clear xg
          refine wR (rs := [10]) (by kernel_rfl) (by simp) (aR rfl (fun K hK => ?km1322A2) aN)
          case km1322A2 =>
           rw [if_pos (by rfl)]
           obtain ⟨v2,wB,ea,rb,gb⟩ := app_any tyPt (fun _ => rfl) ptC_one (by decide) wA 33 PtD.zero wr.heap.size _ ([] ++ L.take j) ra hH.size _ [x] (.inr ⟨_,_,rfl,PtsA.src rs⟩) (by have := hLn.out; simp only [List.length_append,List.length_take,List.length_drop,List.length_singleton,List.length_nil]; omega) (by have := hLn.out; simp only [List.length_append,List.length_take,List.length_drop,List.length_singleton,List.length_nil]; omega)
           have hlo : ∀ g,Value.ownBlock v1 = some g → wr.heap.size ≤ g := fun g hg => (ra.lt g hg).1
           refine Lib.wp_append_run _ _ _ _ _ rfl _ _ rfl rfl v2 wB ea (hK.out _ _ (grown_ext' hH gb (Nat.le_refl _) hlo) (fun hH => ?_))
           clear hK K ea ra hlo
           try simp only [aT,aZ,aS]
           have ra := rb
           clear rb
           clear gb
           refine wR (rs := [14]) (by kernel_rfl) (by simp) (aR rfl (fun K hK => ?km1323A3) aN)
           case km1323A3 =>
            rw [if_pos (by rfl)]
            obtain ⟨v3,wC,ea,rb,gb⟩ := app_any tyPt (fun _ => rfl) ptC_one (by decide) wB 33 PtD.zero wr.heap.size _ ([] ++ L.take j ++ [x]) ra hH.size _ (L.drop j) (hs2 _ hH) (by have := hLn.out; simp only [List.length_append,List.length_take,List.length_drop,List.length_singleton,List.length_nil]; omega) (by have := hLn.out; simp only [List.length_append,List.length_take,List.length_drop,List.length_singleton,List.length_nil]; omega)
            have hlo : ∀ g,Value.ownBlock v2 = some g → wr.heap.size ≤ g := fun g hg => (ra.lt g hg).1
            refine Lib.wp_append_run _ _ _ _ _ rfl _ _ rfl rfl v3 wC ea (hK.out _ _ (grown_ext' hH gb (Nat.le_refl _) hlo) (fun hH => ?_))
            clear hK K ea ra hlo
            try simp only [aT,aZ,aS]
            have ra := rb
            clear rb
            clear gb
            refine tk 15 rfl (by kernel_rfl) (fun _ _ _ h => h) rfl (fun w9 hS9 => by go_simp; (try rfl)) hH ?_
            try simp only [Act.put,aT,aZ,aS]
            refine wpAnyH_done (by kernel_rfl) ?_ _
            go_wp2_with fail
            go_roundw
            case rel => exact ⟨k + 1,_,rfl,hlt,ra.mono hNw,HH,xr.trans (xs.trans hH)⟩
            case measure => simp only [intOf]; omega
  ·have i0 : ¬ (k : Int) < (fps.length : Int) := by omega
   obtain rfl : k = fps.length := by omega
   have V : Hid (S = some ⟨fn,fk,fu,fh,L.map PtD.y⟩) := Lib.hid (hgood.out L (by have := hQ.out.1; rwa [List.take_length] at this) hQ.out.2)
   have KP : Hid (RowP N a L wr ∧ ∀ p ∈ L,p ∈ fps) := Lib.hid ⟨hO.rowP,fun p hp => List.mem_of_mem_take (hQ.out.1.subset hp)⟩
   have fr := fun o => gZ.free o
   obtain ⟨z0,z1,z2,z3,z4⟩ := gZ.cells
   clear hbad hgood hQ hO hPL hf0
   go_wp2_with fail
   refine bodyPost_ret (v := .tuple #[.agg #[.string fn,.int .i64 fk,.string fu,.string fh,.slice a L.length cap],.bool true]) ?_ rfl ⟨⟨⟨fn,fk,fu,fh,a,cap,L⟩,true,rfl,?_,KP.out.2,(fun _ => V.out),fun h => by cases h⟩,?_⟩
   ·simp [results,Tryz.results59,go_sem,z0,z1,z2,z3,z4]
   ·exact (((((KP.out.1.setC (B + 1) 0 _ hBN).setC (B + 1) 1 _ hBN).setC (B + 1) 2 _ hBN).setC (B + 1) 3 _ hBN).setC (B + 1) 4 _ hBN).mono (by omega)
   ·exact ((((((xw.trans xr).setC (B + 1) 0 _ hwB).setC (B + 1) 1 _ hwB).setC (B + 1) 2 _ hwB).setC (B + 1) 3 _ hwB).setC (B + 1) 4 _ hwB)
end Go.Proofs.YtjjnmefihdjglaaGreat
