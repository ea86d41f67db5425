import Derived.Test.YtjjnmefihdjglaaGreatKT
set_option maxRecDepth 100000
set_option maxHeartbeats 64000000
set_option linter.all false
namespace Go.Proofs.YtjjnmefihdjglaaGreat
open Go.RowKit
structure BatD where
 tn : ByteArray
 fa : Option Addr
 fc : Nat
 fs : List FamD
def BatD.y (b : BatD) : ByteArray × List FamY := (b.tn,b.fs.map FamD.y)
def BatsAt (b o : Nat) (l : List BatD) (w : World) : Prop :=
 ∀ i (h : i < l.length),w.cell? ⟨b,o + i * 2,none⟩ = some (.string l[i].tn) ∧ w.cell? ⟨b,o + i * 2 + 1,none⟩ = some (.slice l[i].fa l[i].fs.length l[i].fc)
def BatsA (a : Option Addr) (l : List BatD) (w : World) : Prop :=
 (0 < l.length → ∃ b o,a = some ⟨b,o,none⟩ ∧ b < w.heap.size ∧ BatsAt b o l w) ∧ ∀ x ∈ l,FamsA x.fa x.fs w
theorem BatsA.ext {a : Option Addr} {l : List BatD} {w w' : World} (h : BatsA a l w) (x : Ext w w') : BatsA a l w' := by
 refine ⟨fun h0 => ?_,fun f hf => (h.2 f hf).ext x⟩
 obtain ⟨b,o,e,hb,hA⟩ := h.1 h0
 exact ⟨b,o,e,Nat.lt_of_lt_of_le hb x.size,fun i hi => ⟨(Ext.cell x hb).trans (hA i hi).1,(Ext.cell x hb).trans (hA i hi).2⟩⟩
theorem BatsA.nil (a : Option Addr) (w : World) : BatsA a [] w := ⟨fun h => absurd h (by simp),fun f hf => by cases hf⟩
noncomputable def takesY : List FamY → List FamY → Option (List FamY)
 | L,[] => some L
 | L,f :: fs => (takeY L f).bind fun M => takesY M fs
theorem takesY_append (xs ys : List FamY) : ∀ L,takesY L (xs ++ ys) = (takesY L xs).bind fun M => takesY M ys := by
 induction xs with
 | nil => intro L; rfl
 | cons x xs ih =>
   intro L
   rw [List.cons_append,takesY,takesY]
   cases takeY L x with
   | none => rfl
   | some M => exact ih M
noncomputable def mergeG (t : ByteArray) (fs : List FamY) : Int × ByteArray × List FamY :=
 match takesY [] fs with
 | none => (13,⟨#[]⟩,[])
 | some L =>
   match sortB L with
   | none => (19,⟨#[]⟩,[])
   | some N => if checkB t N = 0 then (0,t,N) else (checkB t N,⟨#[]⟩,[])
noncomputable def mergeY (bs : List (ByteArray × List FamY)) : Int × ByteArray × List FamY :=
 match bs with
 | [] => (0,⟨#[]⟩,[])
 | b0 :: _ =>
   if bs.all (fun b => checkB b.1 b.2 == 0) = true then
    if bs.all (fun b => decide (b.1 = b0.1)) = true then
     mergeG b0.1 (bs.flatMap (fun b => b.2))
    else (18,⟨#[]⟩,[])
   else (19,⟨#[]⟩,[])
theorem srt_len {f g : FamY} (h : srt f = some g) : g.ps.length = f.ps.length := (srt_is h).2.2.2.2.1.length_eq
theorem putY_is {a b g : FamY} (h : putY a b = some g) : a.nm = b.nm ∧ a.k = b.k ∧ goodF a = true ∧ goodF b = true ∧ srt (putH a b) = some g := by
 unfold putY at h
 split at h
 ·rename_i k
  exact ⟨k.1,k.2.1,k.2.2.1,k.2.2.2,h⟩
 ·cases h
theorem putY_len {a b g : FamY} (h : putY a b = some g) : g.ps.length ≤ a.ps.length + b.ps.length := by
 have h1 := srt_len (putY_is h).2.2.2.2
 have h2 := List.length_filter_le (fun p => !(likeIn p b.ps)) a.ps
 rw [h1]
 unfold putH
 dsimp only
 rw [List.length_append]
 omega
theorem putY_sm {a b g : FamY} (h : putY a b = some g) (sa : a.Sm) (sb : b.Sm) (hl : a.ps.length + b.ps.length ≤ 1000) : g.Sm := by
 have k := srt_is (putY_is h).2.2.2.2
 refine ⟨?_,?_,?_,by have := putY_len h; omega,fun q hq => ?_⟩
 ·rw [k.1]; exact sb.n
 ·rw [k.2.2.1]
  unfold putH
  dsimp only
  split
  ·exact sa.u
  ·exact sb.u
 ·rw [k.2.2.2.1]
  unfold putH
  dsimp only
  split
  ·exact sa.h
  ·exact sb.h
 ·have := k.2.2.2.2.1.subset hq
  unfold putH at this
  dsimp only at this
  rcases List.mem_append.1 this with h1 | h1
  ·exact sb.l q h1
  ·exact sa.l q (List.mem_filter.1 h1).1
theorem ptsN_mem {L : List FamY} {f : FamY} (h : f ∈ L) : f.ps.length ≤ ptsN L := by
 induction L with
 | nil => cases h
 | cons x L ih =>
   rw [ptsN]
   rcases List.mem_cons.1 h with rfl | h
   ·omega
   ·have := ih h; omega
theorem ptsN_set : ∀ (L : List FamY) (j : Nat) (g : FamY) (h : j < L.length),ptsN (L.set j g) + L[j].ps.length = ptsN L + g.ps.length
 | x :: L,0,g,_ => by simp [ptsN]; omega
 | x :: L,j + 1,g,h => by
   have := ptsN_set L j g (by simpa using h)
   simp only [List.set_cons_succ,ptsN,List.getElem_cons_succ]
   omega
theorem takeY_bounds {L M : List FamY} {f : FamY} (h : takeY L f = some M) (sL : ∀ x ∈ L,x.Sm) (sf : f.Sm) (hp : ptsN L + f.ps.length ≤ 1000) :
  M.length ≤ L.length + 1 ∧ ptsN M ≤ ptsN L + f.ps.length ∧ ∀ x ∈ M,x.Sm := by
 unfold takeY at h
 by_cases hn : nmAt f.nm 0 L < 0
 ·rw [if_pos hn] at h
  injection h with h
  subst h
  refine ⟨by simp,by rw [ptsN_append]; simp [ptsN],fun x hx => ?_⟩
  rcases List.mem_append.1 hx with hx | hx
  ·exact sL x hx
  ·rw [List.mem_singleton] at hx
   rw [hx]; exact sf
 ·rw [if_neg hn] at h
  rcases nmAt_cases f.nm L 0 with ⟨h1,_⟩ | ⟨j,hj,h1,_⟩
  ·omega
  ·have hj2 : (nmAt f.nm 0 L).toNat = j := by rw [h1]; omega
   rw [hj2,show L[j]?.getD FamY.zero = L[j] from by simp [hj]] at h
   cases hp2 : putY L[j] f with
   | none => rw [hp2] at h; cases h
   | some g =>
     rw [hp2,Option.map_some] at h
     injection h with h
     subst h
     have hm := ptsN_mem (List.getElem_mem hj)
     have hl := putY_len hp2
     have hs := ptsN_set L j g hj
     refine ⟨by simp,by omega,fun x hx => ?_⟩
     rcases List.mem_or_eq_of_mem_set hx with hx | rfl
     ·exact sL x hx
     ·exact putY_sm hp2 (sL _ (List.getElem_mem hj)) sf (by omega)
theorem takesY_bounds : ∀ (fs L M : List FamY),takesY L fs = some M → (∀ x ∈ L,x.Sm) → (∀ x ∈ fs,x.Sm) → ptsN L + ptsN fs ≤ 1000 →
  M.length ≤ L.length + fs.length ∧ ptsN M ≤ ptsN L + ptsN fs ∧ ∀ x ∈ M,x.Sm
 | [],L,M,h,sL,_,_ => by
   injection h with h
   subst h
   exact ⟨by simp,by simp [ptsN],sL⟩
 | f :: fs,L,M,h,sL,sf,hp => by
   rw [takesY] at h
   cases ht : takeY L f with
   | none => rw [ht] at h; cases h
   | some M1 =>
     rw [ht,Option.bind_some] at h
     rw [ptsN] at hp
     have h1 := takeY_bounds ht sL (sf f (by simp)) (by omega)
     have h2 := takesY_bounds fs M1 M h h1.2.2 (fun x hx => sf x (by simp [hx])) (by omega)
     exact ⟨by have := h1.1; have := h2.1; simp; omega,by rw [ptsN]; have := h1.2.1; have := h2.2.1; omega,h2.2.2⟩
theorem flat_bounds : ∀ (l : List BatD),(∀ x ∈ l,GoodB x.tn (x.fs.map FamD.y)) → ptsN ((l.map BatD.y).flatMap (fun b => b.2)) ≤ 120 * l.length ∧ ((l.map BatD.y).flatMap (fun b => b.2)).length ≤ 30 * l.length
 | [],_ => ⟨by simp [ptsN],by simp⟩
 | x :: l,h => by
   have h1 := h x (by simp)
   have h2 := flat_bounds l (fun y hy => h y (by simp [hy]))
   have h3 : ptsN x.y.2 ≤ 120 := h1.pts
   have h4 : x.y.2.length ≤ 30 := h1.len
   simp only [List.map_cons,List.flatMap_cons,ptsN_append,List.length_append,List.length_cons]
   omega
theorem flat_take {l : List BatD} {k : Nat} (hk : k < l.length) : ((l.take (k + 1)).map BatD.y).flatMap (fun b => b.2) = ((l.take k).map BatD.y).flatMap (fun b => b.2) ++ l[k].fs.map FamD.y := by
 rw [List.take_add_one,List.getElem?_eq_getElem hk,List.map_append,List.flatMap_append]
 simp [BatD.y]
theorem flat_split {l : List BatD} {k : Nat} (hk : k < l.length) : (l.map BatD.y).flatMap (fun b => b.2) = (((l.take k).map BatD.y).flatMap (fun b => b.2) ++ l[k].fs.map FamD.y) ++ ((l.drop (k + 1)).map BatD.y).flatMap (fun b => b.2) := by
 rw [← flat_take hk,← List.flatMap_append,← List.map_append,List.take_append_drop]
def MergeTold (bs : List (ByteArray × List FamY)) (base : Nat) (e : Ending) (w' : World) : Prop :=
 ∃ (r : Int) (tn : ByteArray) (a : Option Addr) (c : Nat) (L : List FamD),mergeY bs = (r,tn,L.map FamD.y) ∧ e = .returned (.tuple #[.agg #[.string tn,.slice a L.length c],.int .i64 r]) ∧ OwnF base (.slice a L.length c) L w'
theorem MergeTold.fail {bs : List (ByteArray × List FamY)} {base : Nat} {w' : World} {r : Int} (h : mergeY bs = (r,⟨#[]⟩,[])) : MergeTold bs base (.returned (.tuple #[.agg #[.string ⟨#[]⟩,.slice none 0 0],.int .i64 r])) w' :=
 ⟨r,_,none,0,[],h,rfl,OwnF.nil _ _⟩
theorem mergeY_19 {bs : List (ByteArray × List FamY)} {b : ByteArray × List FamY} (hb : b ∈ bs) (h : checkB b.1 b.2 ≠ 0) : mergeY bs = (19,⟨#[]⟩,[]) := by
 cases bs with
 | nil => cases hb
 | cons b0 l =>
   unfold mergeY
   dsimp only
   rw [if_neg]
   intro h2
   have := List.all_eq_true.1 h2 b hb
   simp at this
   exact h this
theorem mergeY_18 {b0 : ByteArray × List FamY} {l : List (ByteArray × List FamY)} (h : ∀ b ∈ b0 :: l,checkB b.1 b.2 = 0) {b : ByteArray × List FamY} (hb : b ∈ b0 :: l) (hn : b.1 ≠ b0.1) : mergeY (b0 :: l) = (18,⟨#[]⟩,[]) := by
 unfold mergeY
 dsimp only
 rw [if_pos (List.all_eq_true.2 (fun x hx => by simp [h x hx])),if_neg]
 intro h2
 have := List.all_eq_true.1 h2 b hb
 simp at this
 exact hn this
theorem mergeY_go {b0 : ByteArray × List FamY} {l : List (ByteArray × List FamY)} (h : ∀ b ∈ b0 :: l,checkB b.1 b.2 = 0) (hn : ∀ b ∈ b0 :: l,b.1 = b0.1) :
  mergeY (b0 :: l) = mergeG b0.1 ((b0 :: l).flatMap (fun b => b.2)) := by
 unfold mergeY
 dsimp only
 rw [if_pos (List.all_eq_true.2 (fun x hx => by simp [h x hx])),if_pos (List.all_eq_true.2 (fun x hx => by simp [hn x hx]))]
theorem merge_any (a : Option Addr) (c : Nat) (l : List BatD) (w : World) (hA : BatsA a l w) (hl : l.length ≤ 8) (hb : ∀ x ∈ l,x.fs.length ≤ 1000000 ∧ x.tn.size ≤ 1000000 ∧ ∀ f ∈ x.fs,f.y.Sm) :
  Calls Tryz.prog 12 #[.slice a l.length c] w fun e w' => MergeTold (l.map BatD.y) w.heap.size e w' ∧ Ext w w' := by
 obtain ⟨W,hW⟩ : ∃ W,w.alloc (.cells #[.string ⟨#[]⟩,.slice none 0 0] 27) = W := ⟨_,rfl⟩
 have x1 : Ext w W := by rw [← hW]; exact (Ext.refl w).alloc _
 have gR : BatIn w.heap.size ⟨#[]⟩ (.slice none 0 0) W := by rw [← hW]; exact heap_last _ _
 replace hW := Lib.hid hW
 obtain ⟨B,hB⟩ : ∃ B,w.heap.size = B := ⟨_,rfl⟩
 rw [hB] at gR ⊢
 have hwB : w.heap.size ≤ B := by omega
 by_cases h0 : l.length = 0
 ·obtain rfl : l = [] := List.length_eq_zero_iff.1 h0
  go_enter Tryz.func12,Tryz.ntmps12
  obtain ⟨e0,e1⟩ := gR.cells
  have fr := fun o => gR.free o
  go_wp2_with fail
  try rw [hB]
  try rw [hW.out]
  try go_wp2_with fail
  refine bodyPost_ret (v := .tuple #[.agg #[.string ⟨#[]⟩,.slice none 0 0],.int .i64 0]) ?_ rfl ⟨MergeTold.fail rfl,by first | exact x1 | exact (x1.setC B 0 _ hwB).setC B 1 _ hwB⟩
  simp [results,Tryz.results12,go_sem,e0,e1]
 have h0b : ((l.length : Int) == 0) = false := by rw [beq_eq_false_iff_ne]; omega
 have hlp : 0 < l.length := by omega
 replace hA := hA.ext x1
 obtain ⟨b,o,rfl,hbb,hAt⟩ := hA.1 hlp
 go_enter Tryz.func12,Tryz.ntmps12
 go_wp2_with fail
 try rw [hB]
 try rw [hW.out]
 clear hW
 go_loopw [22] (fun i wr => ∃ k : Nat,i = .int .i64 k ∧ k ≤ l.length ∧ Hid (∀ j (h : j < l.length),j < k → checkB l[j].tn (l[j].fs.map FamD.y) = 0) ∧ Ext W wr) (fun i _ => l.length - (intOf i).toNat)
 case atStart => exact ⟨0,rfl,Nat.zero_le _,Lib.hid (fun _ _ h => absurd h (Nat.not_lt_zero _)),Ext.refl _⟩
 case round =>
  obtain ⟨k,rfl,hk,hQ,xr⟩ := hrel
  by_cases hlt : k < l.length
  ·obtain ⟨p0,p1⟩ := hAt k hlt
   have okF := (hA.2 _ (List.getElem_mem hlt)).ext xr
   obtain ⟨b1,b2,b3⟩ := hb _ (List.getElem_mem hlt)
   have hmem : l[k].y ∈ l.map BatD.y := List.mem_map_of_mem (List.getElem_mem hlt)
   obtain ⟨p,hp⟩ : ∃ p,l[k] = p := ⟨_,rfl⟩
   rw [hp] at p0 p1 okF b1 b2 b3 hmem
   replace p0 := (Ext.cell xr hbb).trans p0
   replace p1 := (Ext.cell xr hbb).trans p1
   have i0 : (k : Int) < (l.length : Int) := by omega
   have CK := fun W' (x : Ext wr W') => Check_any p.tn p.fa p.fc p.fs W' b1 b2 (okF.ext x) b3
   obtain ⟨r,hr⟩ : ∃ r,checkB p.tn (p.fs.map FamD.y) = r := ⟨_,rfl⟩
   rw [hr] at CK
   have xa := (Ext.refl wr).alloc (.cells #[.string p.tn,.slice p.fa p.fs.length p.fc] 27)
   by_cases hr0 : r = 0
   ·subst hr0
    have hQ2 : Hid (∀ j (h : j < l.length),j < k + 1 → checkB l[j].tn (l[j].fs.map FamD.y) = 0) := Lib.hid (fun j h hj => by
     by_cases e : j = k
     ·subst e; rw [hp]; exact hr
     ·exact hQ.out j h (by omega))
    clear hQ hr hp okF b1 b2 b3 hmem
    go_wp2_with fail
    (with_reducible refine (CK _ xa).mono ?_)
    rintro e w1 ⟨rfl,y1⟩
    go_wp2_with fail
    go_roundw
    case rel => exact ⟨k + 1,rfl,hlt,hQ2,(xr.trans xa).trans y1⟩
    case measure => simp only [intOf]; omega
   ·have hrb : (r != 0) = true := by simpa using hr0
    have hM := Lib.hid (mergeY_19 hmem (by rw [← hr] at hr0; exact hr0))
    clear hQ hp okF b1 b2 b3 hmem hr
    go_wp2_with fail
    (with_reducible refine (CK _ xa).mono ?_)
    rintro e w1 ⟨rfl,y1⟩
    have yy := (xr.trans xa).trans y1
    obtain ⟨e0,e1⟩ := (gR.ext yy).cells
    have fr := fun o => (gR.ext yy).free o
    go_wp2_with fail
    refine bodyPost_ret (v := .tuple #[.agg #[.string ⟨#[]⟩,.slice none 0 0],.int .i64 19]) ?_ rfl ⟨MergeTold.fail hM.out,((x1.trans yy).setC B 0 _ hwB).setC B 1 _ hwB⟩
    simp [results,Tryz.results12,go_sem,e0,e1]
  ·obtain rfl : k = l.length := by omega
   have hck : Hid (∀ x ∈ l,checkB x.tn (x.fs.map FamD.y) = 0) := Lib.hid (fun x hx => by
    obtain ⟨j,hj,e⟩ := List.getElem_of_mem hx
    have := hQ.out j hj hj
    rw [e] at this; exact this)
   replace gR := gR.ext xr
   replace hA := hA.ext xr
   replace x1 := x1.trans xr
   replace hAt : BatsAt b o l wr := fun i hi => ⟨(Ext.cell xr hbb).trans (hAt i hi).1,(Ext.cell xr hbb).trans (hAt i hi).2⟩
   replace hbb : b < wr.heap.size := Nat.lt_of_lt_of_le hbb xr.size
   obtain ⟨t00,_⟩ := hAt 0 hlp
   rw [Nat.zero_mul,Nat.add_zero] at t00
   obtain ⟨T0,hT0⟩ : ∃ T0,l[0].tn = T0 := ⟨_,rfl⟩
   rw [hT0] at t00
   have i9 : ¬ (l.length : Int) < (l.length : Int) := by omega
   have hl0 : (0 : Int) < (l.length : Int) := by omega
   clear hQ hk hlt xr
   go_wp2_with fail
   go_loopw [33] (fun i wr2 => ∃ k : Nat,i = .int .i64 k ∧ k ≤ l.length ∧ Hid (∀ j (h : j < l.length),j < k → l[j].tn = T0) ∧ Ext wr wr2) (fun i _ => l.length - (intOf i).toNat)
   case atStart => exact ⟨0,rfl,Nat.zero_le _,Lib.hid (fun _ _ h => absurd h (Nat.not_lt_zero _)),Ext.refl _⟩
   case round =>
    obtain ⟨k,rfl,hk,hQ,xr⟩ := hrel
    by_cases hlt : k < l.length
    ·obtain ⟨p0,p1⟩ := hAt k hlt
     have hmem : l[k].y ∈ l.map BatD.y := List.mem_map_of_mem (List.getElem_mem hlt)
     obtain ⟨p,hp⟩ : ∃ p,l[k] = p := ⟨_,rfl⟩
     rw [hp] at p0 p1 hmem
     replace p0 := (Ext.cell xr hbb).trans p0
     replace p1 := (Ext.cell xr hbb).trans p1
     have t0' := (Ext.cell xr hbb).trans t00
     have i0 : (k : Int) < (l.length : Int) := by omega
     have hb2 : b < wr.heap.size := Nat.lt_of_lt_of_le hbb xr.size
     have en := eq_is p.tn T0
     have xa := (Ext.refl wr).alloc (.cells #[.string p.tn,.slice p.fa p.fs.length p.fc] 27)
     by_cases hnt : p.tn = T0
     ·rw [decide_eq_true hnt] at en
      have hQ2 : Hid (∀ j (h : j < l.length),j < k + 1 → l[j].tn = T0) := Lib.hid (fun j h hj => by
       by_cases e : j = k
       ·subst e; rw [hp]; exact hnt
       ·exact hQ.out j h (by omega))
      replace hnt := Lib.hid hnt
      clear hQ hp hmem
      go_wp2_with fail
      go_region
      all_goals
       go_wp2_with fail
       go_roundw
       case rel => exact ⟨k + 1,rfl,hlt,hQ2,(xr.trans xa).drew⟩
       case measure => simp only [intOf]; omega
     ·rw [decide_eq_false hnt] at en
      have hM : Hid (mergeY (l.map BatD.y) = (18,⟨#[]⟩,[])) := Lib.hid (by
       have hl2 : l = l[0] :: l.drop 1 := by
        have := List.drop_eq_getElem_cons hlp
        simpa using this
       rw [hl2,List.map_cons]
       have hc : ∀ x ∈ l[0].y :: (l.drop 1).map BatD.y,checkB x.1 x.2 = 0 := fun x hx => by
        rw [← List.map_cons,← hl2] at hx
        obtain ⟨z,hz,rfl⟩ := List.mem_map.1 hx
        exact hck.out z hz
       refine mergeY_18 hc (b := p.y) ?_ (by rw [show l[0].y.1 = l[0].tn from rfl,hT0]; exact hnt)
       rw [← List.map_cons,← hl2]
       exact hmem)
      clear hQ hp hmem hnt
      have yy := xr.trans xa
      have gR2 := (gR.ext yy).ext (Ext.refl _).drew
      obtain ⟨e0,e1⟩ := gR2.cells
      have fr := fun o => gR2.free o
      have fr3 := fun o => (gR.ext yy).free o
      have fr4 := fun o => (gR.ext xr).free o
      have fr5 : wr.frozen? ⟨B,0,none⟩ = false := fr4 0
      have fr6 : wr.frozen? ⟨B,1,none⟩ = false := fr4 1
      obtain ⟨f0,f1⟩ := (gR.ext yy).cells
      obtain ⟨f2,f3⟩ := (gR.ext xr).cells
      go_wp2_with fail
      go_region
      all_goals
       go_wp2_with fail
       refine bodyPost_ret (v := .tuple #[.agg #[.string ⟨#[]⟩,.slice none 0 0],.int .i64 18]) ?_ rfl ⟨MergeTold.fail hM.out,by first | exact (((x1.trans yy).drew).setC B 0 _ hwB).setC B 1 _ hwB | exact ((((x1.trans yy).setC B 0 _ hwB).setC B 1 _ hwB)).drew⟩
       simp [results,Tryz.results12,go_sem,e0,e1,f0,f1,f2,f3]
    ·have hnm : Hid (∀ x ∈ l,x.tn = T0) := Lib.hid (fun x hx => by
      obtain ⟨j,hj,e⟩ := List.getElem_of_mem hx
      have := hQ.out j hj (by omega)
      rw [e] at this; exact this)
     obtain rfl : k = l.length := by omega
     replace gR := gR.ext xr
     replace hA := hA.ext xr
     replace x1 := x1.trans xr
     replace hAt : BatsAt b o l wr := fun i hi => ⟨(Ext.cell xr hbb).trans (hAt i hi).1,(Ext.cell xr hbb).trans (hAt i hi).2⟩
     replace t00 := (Ext.cell xr hbb).trans t00
     replace hbb : b < wr.heap.size := Nat.lt_of_lt_of_le hbb xr.size
     have hgo : Hid (mergeY (l.map BatD.y) = mergeG T0 ((l.map BatD.y).flatMap (fun b => b.2))) := Lib.hid (by
      have hl2 : l = l[0] :: l.drop 1 := by
       have := List.drop_eq_getElem_cons hlp
       simpa using this
      have hc : ∀ x ∈ l[0].y :: (l.drop 1).map BatD.y,checkB x.1 x.2 = 0 := fun x hx => by
       rw [← List.map_cons,← hl2] at hx
       obtain ⟨z,hz,rfl⟩ := List.mem_map.1 hx
       exact hck.out z hz
      have hn : ∀ x ∈ l[0].y :: (l.drop 1).map BatD.y,x.1 = l[0].y.1 := fun x hx => by
       rw [← List.map_cons,← hl2] at hx
       obtain ⟨z,hz,rfl⟩ := List.mem_map.1 hx
       show z.tn = l[0].tn
       rw [hT0]; exact hnm.out z hz
      have := mergeY_go hc hn
      rw [← List.map_cons,← hl2,show l[0].y.1 = l[0].tn from rfl,hT0] at this
      exact this)
     have hall : Hid (∀ x ∈ l,GoodB x.tn (x.fs.map FamD.y)) := Lib.hid (fun x hx => GoodB.of (hck.out x hx))
     obtain ⟨JB,hJB⟩ : ∃ JB,wr.heap.size = JB := ⟨_,rfl⟩
     have xj := (Ext.refl wr).alloc (.cells #[.string T0,.slice none 0 0] 72)
     have hJ0 : JoinIn JB T0 (.slice none 0 0) (wr.alloc (.cells #[.string T0,.slice none 0 0] 72)) := by rw [← hJB]; exact heap_last _ _
     have hz0 : JB + 1 ≤ (wr.alloc (.cells #[.string T0,.slice none 0 0] 72)).heap.size := by rw [heap_size_alloc]; omega
     have hBJ : B < JB := by have := gR.lt; omega
     have hwJ : w.heap.size ≤ JB := by omega
     clear hQ hk hlt xr hnm hck
     go_wp2_with fail
     generalize wr = WJ at *
     have hJz : WJ.heap.size ≤ JB := by omega
     go_loopw [55] (fun i wk => ∃ (k : Nat) (L : List FamD) (v : Value),i = .int .i64 k ∧ k ≤ l.length ∧ Hid (takesY [] (((l.take k).map BatD.y).flatMap (fun b => b.2)) = some (L.map FamD.y)) ∧ OwnF (JB + 1) v L wk ∧ JoinIn JB T0 v wk ∧ JB + 1 ≤ wk.heap.size ∧ Ext WJ wk) (fun i _ => l.length - (intOf i).toNat)
     case atStart => exact ⟨0,[],_,rfl,Nat.zero_le _,Lib.hid rfl,OwnF.nil _ _,hJ0,hz0,xj⟩
     case round =>
      clear hJ0 hz0 xj
      obtain ⟨k,L,v,rfl,hk,hQ,hO,hJ,hz,xk⟩ := hrel
      by_cases hlt : k < l.length
      ·obtain ⟨p0,p1⟩ := hAt k hlt
       have okJ := hA.2 _ (List.getElem_mem hlt)
       have okF := okJ.ext xk
       obtain ⟨b1,b2,b3⟩ := hb _ (List.getElem_mem hlt)
       have hft := flat_take hlt
       have hfs := flat_split hlt
       have hgp := hall.out _ (List.getElem_mem hlt)
       have hfb := flat_bounds (l.take k) (fun x hx => hall.out x (List.mem_of_mem_take hx))
       rw [List.length_take] at hfb
       have hpsm : ∀ f ∈ ((l.take k).map BatD.y).flatMap (fun b => b.2),f.Sm := fun f hf => by
        obtain ⟨y,hy,hfy⟩ := List.mem_flatMap.1 hf
        obtain ⟨x,hx,rfl⟩ := List.mem_map.1 hy
        obtain ⟨z,hz,rfl⟩ := List.mem_map.1 hfy
        exact (hb x (List.mem_of_mem_take hx)).2.2 z hz
       obtain ⟨pre,hpre⟩ : ∃ pre,((l.take k).map BatD.y).flatMap (fun b => b.2) = pre := ⟨_,rfl⟩
       obtain ⟨p,hp⟩ : ∃ p,l[k] = p := ⟨_,rfl⟩
       rw [hp] at p0 p1 okF okJ b1 b2 b3 hft hfs hgp
       rw [hpre] at hft hfs hfb hpsm hQ
       replace p0 := (Ext.cell xk hbb).trans p0
       replace p1 := (Ext.cell xk hbb).trans p1
       have i0 : (k : Int) < (l.length : Int) := by omega
       have xa := (Ext.refl wr).alloc (.cells #[.string p.tn,.slice p.fa p.fs.length p.fc] 27)
       have gp1 := hgp.pts
       have gp2 := hgp.len
       rw [List.length_map] at gp2
       have hJ2 := hJ.ext xa
       have hO2 := hO.ext xa
       have hz2 : JB + 1 ≤ (wr.alloc (.cells #[.string p.tn,.slice p.fa p.fs.length p.fc] 27)).heap.size := by rw [heap_size_alloc]; omega
       have xk2 := xk.trans xa
       have okF2 := okF.ext xa
       replace hft := Lib.hid hft
       replace hfs := Lib.hid hfs
       replace hpsm := Lib.hid hpsm
       obtain ⟨pn,pfa,pfc,pfs⟩ := p
       dsimp only at p0 p1 b1 b2 b3 okF2 okJ xk2 hz2 hJ2 hO2 gp1 gp2 hft hfs xa
       clear hp hpre okF hJ hO hz xk hgp
       go_wp2_with fail
       clear p0 p1
       generalize wr.alloc (.cells #[.string pn,.slice pfa pfs.length pfc] 27) = WB at *
       go_loopw [62] (fun i wm => ∃ (m : Nat) (L : List FamD) (v : Value),i = .int .i64 m ∧ m ≤ pfs.length ∧ Hid (takesY [] (pre ++ (pfs.map FamD.y).take m) = some (L.map FamD.y)) ∧ OwnF (JB + 1) v L wm ∧ JoinIn JB T0 v wm ∧ JB + 1 ≤ wm.heap.size ∧ Ext WJ wm ∧ FamsA pfa pfs wm) (fun i _ => pfs.length - (intOf i).toNat)
       case atStart => exact ⟨0,L,v,rfl,Nat.zero_le _,Lib.hid (by rw [List.take_zero,List.append_nil]; exact hQ.out),hO2,hJ2,hz2,xk2,okF2⟩
       case round =>
        clear hO2 hJ2 hz2 xk2 okF2 hQ
        obtain ⟨m,L,v,rfl,hm,hQ,hO,hJ,hz,xm,hFA⟩ := hrel
        by_cases hmt : m < pfs.length
        ·obtain ⟨fb,fo,rfl,hfb2,hFt⟩ := hFA.1 (by omega)
         obtain ⟨q0,q1,q2,q3,q4⟩ := hFt m hmt
         have okP := hFA.2 _ (List.getElem_mem hmt)
         have sq := b3 _ (List.getElem_mem hmt)
         have htk : (pfs.map FamD.y).take (m + 1) = (pfs.map FamD.y).take m ++ [pfs[m].y] := by rw [List.take_add_one,List.getElem?_map,List.getElem?_eq_getElem hmt]; rfl
         have hdr : pfs.map FamD.y = (pfs.map FamD.y).take m ++ (pfs[m].y :: (pfs.map FamD.y).drop (m + 1)) := by
          have h1 : m < (pfs.map FamD.y).length := by simpa using hmt
          have h2 := List.take_append_drop m (pfs.map FamD.y)
          rw [List.drop_eq_getElem_cons h1,show (pfs.map FamD.y)[m] = pfs[m].y from by simp] at h2
          exact h2.symm
         have hbd := takesY_bounds _ [] _ hQ.out (by intro x hx; cases hx) (fun x hx => by
          rcases List.mem_append.1 hx with hx | hx
          ·exact hpsm.out x hx
          ·obtain ⟨z,hz,rfl⟩ := List.mem_map.1 (List.mem_of_mem_take hx)
           exact b3 z hz) (by
          have h1 := congrArg ptsN hdr
          rw [ptsN_append] at h1
          rw [ptsN_append]
          simp only [ptsN] at h1 ⊢
          omega)
         have hpd : ptsN ((pfs.map FamD.y).take m) + pfs[m].ps.length ≤ 120 := by
          have h1 := congrArg ptsN hdr
          rw [ptsN_append,ptsN,FamD.y_len] at h1
          omega
         obtain ⟨f,hf⟩ : ∃ f,pfs[m] = f := ⟨_,rfl⟩
         rw [hf] at q0 q1 q2 q3 q4 okP sq htk hdr hpd
         have hLl : L.length ≤ 900 := by
          have h1 := hbd.1
          rw [List.length_map,List.length_append,List.length_take,List.length_map] at h1
          simp only [List.length_nil] at h1
          omega
         have hsL : ∀ x ∈ L,x.y.Sm := fun x hx => hbd.2.2 x.y (List.mem_map_of_mem hx)
         have hszL : ∀ x ∈ L,x.ps.length + f.ps.length ≤ 1000 := fun x hx => by
          have h1 := ptsN_mem (List.mem_map_of_mem (f := FamD.y) hx)
          have h2 := hbd.2.1
          rw [FamD.y_len] at h1
          rw [ptsN_append] at h2
          simp only [ptsN] at h2
          omega
         have i1 : (m : Int) < (pfs.length : Int) := by omega
         have xf := (Ext.refl wr).alloc (.cells #[.string f.nm,.int .i64 f.k,.string f.un,.string f.he,.slice f.pa f.ps.length f.pc] 35)
         have TK := takes_any JB T0 v L f (JB + 1) (wr.alloc (.cells #[.string f.nm,.int .i64 f.k,.string f.un,.string f.he,.slice f.pa f.ps.length f.pc] 35)) WJ (hJ.ext xf) (hO.ext xf) (Nat.lt_succ_self _) (by rw [heap_size_alloc]; omega) (okP.ext xf) hsL sq hLl hszL (xm.trans xf) hJz
         have hQt : Hid (∀ M,takeY (L.map FamD.y) f.y = some M → takesY [] (pre ++ (pfs.map FamD.y).take (m + 1)) = some M) := Lib.hid (fun M hM => by
          rw [htk,← List.append_assoc,takesY_append,hQ.out,Option.bind_some,takesY,hM]
          rfl)
         have hQn : Hid (takeY (L.map FamD.y) f.y = none → mergeY (l.map BatD.y) = (13,⟨#[]⟩,[])) := Lib.hid (fun hM => by
          rw [hgo.out]
          unfold mergeG
          have : takesY [] ((l.map BatD.y).flatMap (fun b => b.2)) = none := by
           rw [hfs.out,hdr,← List.append_assoc,List.append_assoc _ _ (List.flatMap _ _),takesY_append,hQ.out,Option.bind_some,List.cons_append,takesY,hM]
           rfl
          rw [this])
         clear hQ hf hLl hsL hszL hbd hpd htk hdr okP sq hFt
         go_wp2_with fail
         (with_reducible refine TK.mono ?_)
         rintro e w5 ⟨hst,y5⟩
         clear TK q0 q1 q2 q3 q4
         rcases hst with ⟨v',L',hty,rfl,hJ5,hO5,hz5⟩ | ⟨hty,rfl⟩
         ·have hQ2 := Lib.hid (hQt.out _ hty)
          have hFA5 : FamsA (some ⟨fb,fo,none⟩) pfs w5 := okJ.ext y5
          clear hQt hQn hty hJ hO
          go_wp2_with fail
          go_roundw
          case rel => exact ⟨m + 1,L',v',rfl,hmt,hQ2,hO5,hJ5,hz5,y5,hFA5⟩
          case measure => simp only [intOf]; omega
         ·have hM := Lib.hid (hQn.out hty)
          have gR5 := gR.ext y5
          obtain ⟨e0,e1⟩ := gR5.cells
          have fr := fun o => gR5.free o
          clear hQt hQn hty hJ hO
          go_wp2_with fail
          refine bodyPost_ret (v := .tuple #[.agg #[.string ⟨#[]⟩,.slice none 0 0],.int .i64 13]) ?_ rfl ⟨MergeTold.fail hM.out,((x1.trans y5).setC B 0 _ hwB).setC B 1 _ hwB⟩
          simp [results,Tryz.results12,go_sem,e0,e1]
        ·obtain rfl : m = pfs.length := by omega
         have hQ2 : Hid (takesY [] (((l.take (k + 1)).map BatD.y).flatMap (fun b => b.2)) = some (L.map FamD.y)) := Lib.hid (by
          rw [hft.out,← hQ.out,List.take_of_length_le (by simp)])
         clear hQ hFA
         go_wp2_with fail
         go_roundw
         case rel => exact ⟨k + 1,L,v,rfl,hlt,hQ2,hO,hJ,hz,xm⟩
         case measure => simp only [intOf]; omega
      ·obtain rfl : k = l.length := by omega
       rw [List.take_length] at hQ
       obtain ⟨av,cv,hv⟩ := hO.1.form
       subst hv
       have hfb := flat_bounds l hall.out
       have hbd := takesY_bounds _ [] _ hQ.out (by intro x hx; cases hx) (fun f hf => by
        obtain ⟨y,hy,hfy⟩ := List.mem_flatMap.1 hf
        obtain ⟨x,hx,rfl⟩ := List.mem_map.1 hy
        obtain ⟨z,hz,rfl⟩ := List.mem_map.1 hfy
        exact (hb x hx).2.2 z hz) (by simp only [ptsN]; omega)
       have hLl : L.length ≤ 900 := by
        have h1 := hbd.1
        rw [List.length_map] at h1
        simp only [List.length_nil] at h1
        omega
       have hsL : ∀ x ∈ L,x.y.Sm := fun x hx => hbd.2.2 x.y (List.mem_map_of_mem hx)
       obtain ⟨_,_,hv2,hFL⟩ := hO.fams
       injection hv2 with q1 q2 q3
       subst q1 q3
       have SO := batSort_any T0 av cv L wr (by omega) hFL hsL
       have hgo2 : Hid (mergeY (l.map BatD.y) = match sortB (L.map FamD.y) with
         | none => (19,⟨#[]⟩,[])
         | some N => if checkB T0 N = 0 then (0,T0,N) else (checkB T0 N,⟨#[]⟩,[])) := Lib.hid (by
        rw [hgo.out]
        unfold mergeG
        rw [hQ.out]
        try rfl)
       have hsl : ∀ f ∈ L.map FamD.y,f.Sm := fun f hf => hbd.2.2 f hf
       have hTs : T0.size ≤ 1000000 := by rw [← hT0]; exact (hb _ (List.getElem_mem hlp)).2.1
       obtain ⟨j0,j1⟩ := hJ.cells
       have gR5 := gR.ext xk
       have xR := x1.trans xk
       clear hQ hbd hfb hgo q2 hO hall hb hAt hA hFL
       go_wp2_with fail
       (with_reducible refine SO.mono ?_)
       rintro e w5 ⟨hst,y5⟩
       clear SO j0 j1
       rcases hst with ⟨v3,L3,hsb,rfl,hO3⟩ | ⟨hsb,rfl⟩
       ·obtain ⟨a3,c3,rfl,hF3⟩ := hO3.fams
        have hs3 := hO3.sm hsb hsl
        have hl3 : L3.length ≤ 1000 := by have := sortB_len hsb; rw [List.length_map,List.length_map] at this; omega
        have CK := fun W' (x : Ext w5 W') => Check_any T0 a3 c3 L3 W' (by omega) hTs (hF3.ext x) hs3
        obtain ⟨r,hr⟩ : ∃ r,checkB T0 (L3.map FamD.y) = r := ⟨_,rfl⟩
        rw [hr] at CK
        have xa := (Ext.refl w5).alloc (.cells #[.string T0,.slice a3 L3.length c3] 27)
        have gO : BatIn w5.heap.size T0 (.slice a3 L3.length c3) (w5.alloc (.cells #[.string T0,.slice a3 L3.length c3] 27)) := heap_last _ _
        obtain ⟨d0,d1⟩ := gO.cells
        have hM := hgo2.out
        rw [hsb] at hM
        dsimp only at hM
        rw [hr] at hM
        replace hM := Lib.hid hM
        have hBz : B < wr.heap.size := gR5.lt
        clear hgo2 hsb hF3 hs3 hJ
        by_cases hr0 : r = 0
        ·subst hr0
         replace hr := Lib.hid hr
         go_wp2_with fail
         (with_reducible refine (CK _ xa).mono ?_)
         rintro e w6 ⟨rfl,y6⟩
         have yy := (y5.trans xa).trans y6
         have gR6 := gR5.ext yy
         obtain ⟨e0,e1⟩ := gR6.cells
         have fr := fun o => gR6.free o
         clear d0 d1
         obtain ⟨d0,d1⟩ := (gO.ext y6).cells
         have hO6 := (hO3.ext xa).ext y6
         have hM2 : Hid (mergeY (l.map BatD.y) = (0,T0,L3.map FamD.y)) := Lib.hid (by rw [hM.out]; simp)
         have hy5 := y5.size
         go_wp2_with fail
         refine bodyPost_ret (v := .tuple #[.agg #[.string T0,.slice a3 L3.length c3],.int .i64 0]) ?_ rfl ⟨⟨0,T0,a3,c3,L3,hM2.out,rfl,((hO6.setC B 0 _ hBz).setC B 1 _ hBz).mono (by omega)⟩,((xR.trans yy).setC B 0 _ hwB).setC B 1 _ hwB⟩
         simp [results,Tryz.results12,go_sem,e0,e1]
        ·have hrb : (r != 0) = true := by simpa using hr0
         have hM2 : Hid (mergeY (l.map BatD.y) = (r,⟨#[]⟩,[])) := Lib.hid (by rw [hM.out,if_neg hr0])
         replace hr := Lib.hid hr
         clear hM
         go_wp2_with fail
         (with_reducible refine (CK _ xa).mono ?_)
         rintro e w6 ⟨rfl,y6⟩
         have yy := (y5.trans xa).trans y6
         have gR6 := gR5.ext yy
         obtain ⟨e0,e1⟩ := gR6.cells
         have fr := fun o => gR6.free o
         go_wp2_with fail
         refine bodyPost_ret (v := .tuple #[.agg #[.string ⟨#[]⟩,.slice none 0 0],.int .i64 r]) ?_ rfl ⟨MergeTold.fail hM2.out,((xR.trans yy).setC B 0 _ hwB).setC B 1 _ hwB⟩
         simp [results,Tryz.results12,go_sem,e0,e1]
       ·have hM2 : Hid (mergeY (l.map BatD.y) = (19,⟨#[]⟩,[])) := Lib.hid (by rw [hgo2.out,hsb])
        have CK : ∀ W',Calls Tryz.prog 21 #[.agg #[.string ⟨#[]⟩,.slice none 0 0]] W' fun e w' => e = .returned (.int .i64 19) ∧ Ext W' w' := fun W' => by
         have := Check_any ⟨#[]⟩ none 0 [] W' (by decide) (by decide) (FamsA.nil _ _) (by intro f hf; cases hf)
         rw [show checkB ⟨#[]⟩ (List.map FamD.y []) = 19 from by decide +kernel] at this
         exact this
        have xa := (Ext.refl w5).alloc (.cells #[.string ⟨#[]⟩,.slice none 0 0] 27)
        have gO : BatIn w5.heap.size ⟨#[]⟩ (.slice none 0 0) (w5.alloc (.cells #[.string ⟨#[]⟩,.slice none 0 0] 27)) := heap_last _ _
        obtain ⟨d0,d1⟩ := gO.cells
        clear hgo2 hsb hJ
        go_wp2_with fail
        (with_reducible refine (CK _).mono ?_)
        rintro e w6 ⟨rfl,y6⟩
        have yy := (y5.trans xa).trans y6
        have gR6 := gR5.ext yy
        obtain ⟨e0,e1⟩ := gR6.cells
        have fr := fun o => gR6.free o
        go_wp2_with fail
        refine bodyPost_ret (v := .tuple #[.agg #[.string ⟨#[]⟩,.slice none 0 0],.int .i64 19]) ?_ rfl ⟨MergeTold.fail hM2.out,((xR.trans yy).setC B 0 _ hwB).setC B 1 _ hwB⟩
        simp [results,Tryz.results12,go_sem,e0,e1]
end Go.Proofs.YtjjnmefihdjglaaGreat
