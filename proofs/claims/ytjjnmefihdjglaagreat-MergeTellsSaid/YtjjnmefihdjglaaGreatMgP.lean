import Derived.Test.YtjjnmefihdjglaaGreatKW
set_option maxRecDepth 100000
set_option maxHeartbeats 64000000
set_option linter.all false
namespace Go.Proofs.YtjjnmefihdjglaaGreat
open Go.RowKit
theorem likeIn_iff (x : PtY) (l : List PtY) : likeIn x l = true ↔ ∃ y ∈ l,cmpY x y = 0 := by
 unfold likeIn
 rw [List.any_eq_true]
 simp
theorem ins_ris {α : Type} {f : α → α → Int} (h : Cmp f) (x : α) : ∀ L : List α,Ris f L → (∀ y ∈ L,f x y ≠ 0) → ∃ M : List α,M.Perm (x :: L) ∧ Ris f M
 | [],_,_ => ⟨[x],List.Perm.refl _,by unfold Ris; simp⟩
 | y :: L,hL,hx => by
   by_cases hlt : f x y < 0
   ·exact ⟨x :: y :: L,List.Perm.refl _,(ris_cons2 h x y L).2 ⟨hlt,hL⟩⟩
   ·have h0 := hx y (by simp)
    have ha := h.anti x y
    have hL' := List.pairwise_cons.1 hL
    obtain ⟨M,hp,hr⟩ := ins_ris h x L hL'.2 (fun z hz => hx z (by simp [hz]))
    refine ⟨y :: M,(hp.cons y).trans (List.Perm.swap x y L),List.pairwise_cons.2 ⟨fun z hz => ?_,hr⟩⟩
    rcases List.mem_cons.1 (hp.subset hz) with rfl | hz
    ·omega
    ·exact hL'.1 z hz
theorem sort_ris {α : Type} {f : α → α → Int} (h : Cmp f) : ∀ L : List α,L.Pairwise (fun x y => f x y ≠ 0) → ∃ M : List α,M.Perm L ∧ Ris f M
 | [],_ => ⟨[],List.Perm.refl _,List.Pairwise.nil⟩
 | x :: L,hL => by
   rw [List.pairwise_cons] at hL
   obtain ⟨M,hp,hr⟩ := sort_ris h L hL.2
   obtain ⟨N,hq,hs⟩ := ins_ris h x M hr (fun y hy => hL.1 y (hp.subset hy))
   exact ⟨N,hq.trans (hp.cons x),hs⟩
theorem goodF_iff (f : FamY) : goodF f = true ↔ (nameB f.nm = true ∧ (0 ≤ f.k ∧ f.k ≤ 4) ∧ valueB f.un = true ∧ valueB f.he = true) ∧ (∀ p ∈ f.ps,goodY f.k p = true) ∧ Ris cmpY f.ps := by
 constructor
 ·intro h
  refine ⟨goodF_parts h,?_,goodF_ris h⟩
  unfold goodF goodFamY at h
  simp only [Bool.and_eq_true] at h
  exact List.all_eq_true.1 h.2.1
 ·rintro ⟨⟨h1,h2,h3,h4⟩,h5,h6⟩
  unfold goodF goodFamY
  rw [h1,h3,h4,decide_eq_false (by omega),List.all_eq_true.2 h5,(risesK_iff _).2 ((ris_map _ _ _).2 h6)]
  rfl
structure PutIs (a b g : FamY) : Prop where
 nm : g.nm = b.nm
 k : g.k = b.k
 un : g.un = if b.un.toList.isEmpty = true then a.un else b.un
 he : g.he = if b.he.toList.isEmpty = true then a.he else b.he
 mem : ∀ p,p ∈ g.ps ↔ p ∈ b.ps ∨ (p ∈ a.ps ∧ likeIn p b.ps = false)
 good : goodF g = true
theorem putY_some {a b : FamY} (ha : goodF a = true) (hb : goodF b = true) (hn : a.nm = b.nm) (hk : a.k = b.k) : ∃ g,putY a b = some g ∧ PutIs a b g := by
 have ga := (goodF_iff a).1 ha
 have gb := (goodF_iff b).1 hb
 have hpw : (putH a b).ps.Pairwise (fun x y => cmpY x y ≠ 0) := by
  unfold putH
  dsimp only
  rw [List.pairwise_append]
  refine ⟨List.Pairwise.imp (fun {x y} h => by omega) gb.2.2,List.Pairwise.imp (fun {x y} h => by omega) (List.Pairwise.filter _ ga.2.2),fun x hx y hy e => ?_⟩
  have h1 := (List.mem_filter.1 hy).2
  have h2 : likeIn y b.ps = true := (likeIn_iff y b.ps).2 ⟨x,hx,by have := cmpY_cmp.anti x y; omega⟩
  rw [h2] at h1
  cases h1
 obtain ⟨M,hp,hr⟩ := sort_ris cmpY_cmp _ hpw
 have hmem : ∀ p,p ∈ M ↔ p ∈ b.ps ∨ (p ∈ a.ps ∧ likeIn p b.ps = false) := fun p => by
  rw [hp.mem_iff]
  unfold putH
  dsimp only
  rw [List.mem_append,List.mem_filter,Bool.not_eq_true']
 refine ⟨{ putH a b with ps := M },?_,rfl,rfl,rfl,rfl,hmem,(goodF_iff _).2 ⟨⟨gb.1.1,gb.1.2.1,?_,?_⟩,fun p hp' => ?_,hr⟩⟩
 ·unfold putY
  rw [if_pos ⟨hn,hk,ha,hb⟩,srt_some hp hr]
 ·unfold putH
  dsimp only
  split
  ·exact ga.1.2.2.1
  ·exact gb.1.2.2.1
 ·unfold putH
  dsimp only
  split
  ·exact ga.1.2.2.2
  ·exact gb.1.2.2.2
 ·show goodY b.k p = true
  rcases (hmem p).1 hp' with h | ⟨h,_⟩
  ·exact gb.2.1 p h
  ·exact hk ▸ ga.2.1 p h
theorem putY_put {a b g : FamY} (h : putY a b = some g) : PutIs a b g := by
 obtain ⟨h1,h2,h3,h4,_⟩ := putY_is h
 obtain ⟨g',e,hg⟩ := putY_some h3 h4 h1 h2
 rw [h] at e
 injection e with e
 exact e ▸ hg
def look (L : List FamY) (nm : ByteArray) : Option FamY := L.find? (fun f => decide (f.nm = nm))
def Dst (L : List FamY) : Prop := L.Pairwise (fun x y => x.nm ≠ y.nm)
theorem look_mem {L : List FamY} {nm : ByteArray} {f : FamY} (h : look L nm = some f) : f ∈ L ∧ f.nm = nm :=
 ⟨List.mem_of_find?_eq_some h,by simpa using List.find?_some h⟩
theorem look_of : ∀ {L : List FamY},Dst L → ∀ {f : FamY},f ∈ L → look L f.nm = some f
 | x :: L,hd,f,hf => by
   unfold look
   rcases List.mem_cons.1 hf with rfl | hf
   ·rw [List.find?_cons_of_pos (by simp)]
   ·rw [List.find?_cons_of_neg (by simpa using (List.pairwise_cons.1 hd).1 f hf)]
    exact look_of (List.pairwise_cons.1 hd).2 hf
theorem look_iff {L : List FamY} (hd : Dst L) {nm : ByteArray} {f : FamY} : look L nm = some f ↔ f ∈ L ∧ f.nm = nm :=
 ⟨look_mem,fun h => h.2 ▸ look_of hd h.1⟩
theorem look_none {L : List FamY} {nm : ByteArray} : look L nm = none ↔ ∀ f ∈ L,f.nm ≠ nm := by
 unfold look
 rw [List.find?_eq_none]
 simp
theorem look_eq {L M : List FamY} (hL : Dst L) (hM : Dst M) {n m : ByteArray} (h : ∀ f : FamY,f ∈ L ∧ f.nm = n ↔ f ∈ M ∧ f.nm = m) : look L n = look M m := by
 cases e : look M m with
 | some f => rw [(look_iff hL)]; exact (h f).2 (look_mem e)
 | none => rw [look_none]; intro f hf hn; exact look_none.1 e f ((h f).1 ⟨hf,hn⟩).1 ((h f).1 ⟨hf,hn⟩).2
theorem dst_iff (L : List FamY) : Dst L ↔ (L.map FamY.nm).Nodup := by
 unfold Dst List.Nodup
 rw [List.pairwise_map]
noncomputable def opF : Option FamY → Option FamY → Option (Option FamY)
 | none,y => some y
 | some x,none => some (some x)
 | some x,some y => (putY x y).map some
theorem opF_two (x y : FamY) : opF (some x) (some y) = (putY x y).map some := rfl
theorem opF_none (x : Option FamY) : opF x none = some x := by cases x <;> rfl
theorem takeY_look {L : List FamY} (hd : Dst L) (f : FamY) :
  (∃ M,takeY L f = some M ∧ Dst M ∧ opF (look L f.nm) (some f) = some (look M f.nm) ∧ (∀ nm,nm ≠ f.nm → look M nm = look L nm) ∧ (∀ x ∈ M,x ∈ L ∨ x = f ∨ ∃ y ∈ L,putY y f = some x)) ∨ (takeY L f = none ∧ opF (look L f.nm) (some f) = none) := by
 rcases nmAt_cases f.nm L 0 with ⟨e,hn⟩ | ⟨j,hj,e,hn⟩
 ·have hD : Dst (L ++ [f]) := List.pairwise_append.2 ⟨hd,List.pairwise_singleton _ _,fun x hx y hy => by rw [List.mem_singleton] at hy; subst hy; exact hn x hx⟩
  refine .inl ⟨L ++ [f],by unfold takeY; rw [e,if_pos (by decide)],hD,?_,fun nm hne => look_eq hD hd (fun x => ?_),fun x hx => ?_⟩
  ·rw [look_none.2 hn,look_of hD (by simp)]; rfl
  ·constructor
   ·rintro ⟨h1,h2⟩
    rcases List.mem_append.1 h1 with h1 | h1
    ·exact ⟨h1,h2⟩
    ·rw [List.mem_singleton] at h1
     subst h1
     exact absurd h2.symm hne
   ·rintro ⟨h1,h2⟩
    exact ⟨List.mem_append_left _ h1,h2⟩
  ·rcases List.mem_append.1 hx with h1 | h1
   ·exact .inl h1
   ·exact .inr (.inl (List.mem_singleton.1 h1))
 ·rw [Nat.zero_add] at e
  have hl : look L f.nm = some L[j] := (look_iff hd).2 ⟨List.getElem_mem hj,hn⟩
  have ht : takeY L f = (putY L[j] f).map (fun g => L.set j g) := by
   unfold takeY
   rw [e,if_neg (by omega)]
   simp [hj]
  rw [ht,hl]
  cases ep : putY L[j] f with
  | none => refine .inr ⟨rfl,?_⟩; rw [opF_two,ep]; rfl
  | some g =>
    have hg : g.nm = f.nm := (putY_put ep).nm
    have hD : Dst (L.set j g) := by
     rw [dst_iff,List.map_set,hg,← hn,show L[j].nm = (L.map FamY.nm)[j]'(by simpa using hj) from by simp,List.set_getElem_self]
     exact (dst_iff L).1 hd
    have hm : g ∈ L.set j g := List.mem_set hj g
    refine .inl ⟨L.set j g,rfl,hD,?_,fun nm hne => look_eq hD hd (fun x => ?_),fun x hx => ?_⟩
    ·rw [(look_iff hD).2 ⟨hm,hg⟩]
     rw [opF_two,ep]
     rfl
    ·constructor
     ·rintro ⟨h1,h2⟩
      rcases List.mem_or_eq_of_mem_set h1 with h1 | rfl
      ·exact ⟨h1,h2⟩
      ·exact absurd (h2.symm.trans hg) hne
     ·rintro ⟨h1,h2⟩
      refine ⟨?_,h2⟩
      obtain ⟨i,hi,rfl⟩ := List.getElem_of_mem h1
      have hij : j ≠ i := fun h0 => by subst h0; exact hne (h2.symm.trans hn)
      have : (L.set j g)[i]'(by simpa using hi) = L[i] := List.getElem_set_ne hij _
      rw [← this]
      exact List.getElem_mem _
    ·rcases List.mem_or_eq_of_mem_set hx with h1 | rfl
     ·exact .inl h1
     ·exact .inr (.inr ⟨L[j],List.getElem_mem hj,ep⟩)
theorem takeY_good {L M : List FamY} {f : FamY} (hd : Dst L) (h : takeY L f = some M) (gL : ∀ x ∈ L,goodF x = true) (gf : goodF f = true) : ∀ x ∈ M,goodF x = true := by
 rcases takeY_look hd f with ⟨M',h1,_,_,_,h2⟩ | ⟨h1,_⟩
 ·rw [h] at h1
  injection h1 with h1
  subst h1
  intro x hx
  rcases h2 x hx with h3 | rfl | ⟨y,_,hy⟩
  ·exact gL x h3
  ·exact gf
  ·exact (putY_put hy).good
 ·rw [h] at h1; cases h1
theorem takesY_look : ∀ (fs L : List FamY),Dst L → Dst fs →
  (∃ M,takesY L fs = some M ∧ Dst M ∧ (∀ nm,opF (look L nm) (look fs nm) = some (look M nm)) ∧ ((∀ x ∈ L,goodF x = true) → (∀ x ∈ fs,goodF x = true) → ∀ x ∈ M,goodF x = true)) ∨ (takesY L fs = none ∧ ∃ nm,opF (look L nm) (look fs nm) = none)
 | [],L,hd,_ => .inl ⟨L,rfl,hd,fun nm => opF_none _,fun h _ => h⟩
 | f :: fs,L,hd,hfs => by
   have hp := List.pairwise_cons.1 hfs
   have lf : look (f :: fs) f.nm = some f := look_of hfs (by simp)
   have ln : look fs f.nm = none := look_none.2 (fun x hx => (hp.1 x hx).symm)
   have lo : ∀ nm,nm ≠ f.nm → look (f :: fs) nm = look fs nm := fun nm hne => by
    unfold look
    rw [List.find?_cons_of_neg (by simpa using hne.symm)]
   rw [takesY]
   rcases takeY_look hd f with ⟨M1,h1,d1,o1,n1,_⟩ | ⟨h1,o1⟩
   ·rw [h1,Option.bind_some]
    rcases takesY_look fs M1 d1 hp.2 with ⟨M,h2,d2,o2,g2⟩ | ⟨h2,nm,o2⟩
    ·refine .inl ⟨M,h2,d2,fun nm => ?_,fun gL gf => g2 (takeY_good hd h1 gL (gf f (by simp))) (fun x hx => gf x (by simp [hx]))⟩
     by_cases hne : nm = f.nm
     ·subst hne
      have := o2 f.nm
      rw [ln,opF_none] at this
      rw [lf,o1,this]
     ·rw [lo nm hne,← n1 nm hne,o2]
    ·refine .inr ⟨h2,nm,?_⟩
     have hne : nm ≠ f.nm := fun h0 => by rw [h0,ln,opF_none] at o2; cases o2
     rw [lo nm hne,← n1 nm hne,o2]
   ·rw [h1]
    exact .inr ⟨rfl,f.nm,by rw [lf]; exact o1⟩
noncomputable def joinA (acc : Option FamY) (nm : ByteArray) : List (List FamY) → Option (Option FamY)
 | [] => some acc
 | x :: xs => (opF acc (look x nm)).bind fun u => joinA u nm xs
structure Nice (L : List FamY) : Prop where
 dst : Dst L
 good : ∀ f ∈ L,goodF f = true
theorem Nice.nil : Nice [] := ⟨List.Pairwise.nil,fun f hf => by cases hf⟩
theorem joins_look : ∀ (Ls : List (List FamY)) (acc : List FamY),Nice acc → (∀ x ∈ Ls,Nice x) →
  (∃ M,takesY acc Ls.flatten = some M ∧ Nice M ∧ ∀ nm,joinA (look acc nm) nm Ls = some (look M nm)) ∨ (takesY acc Ls.flatten = none ∧ ∃ nm,joinA (look acc nm) nm Ls = none)
 | [],acc,hn,_ => .inl ⟨acc,rfl,hn,fun nm => rfl⟩
 | x :: xs,acc,hn,hx => by
   have hx0 := hx x (by simp)
   rw [List.flatten_cons,takesY_append]
   rcases takesY_look x acc hn.dst hx0.dst with ⟨M1,h1,d1,o1,g1⟩ | ⟨h1,nm,o1⟩
   ·rw [h1,Option.bind_some]
    rcases joins_look xs M1 ⟨d1,g1 hn.good hx0.good⟩ (fun y hy => hx y (by simp [hy])) with ⟨M,h2,n2,o2⟩ | ⟨h2,nm,o2⟩
    ·exact .inl ⟨M,h2,n2,fun nm => by rw [joinA,o1,Option.bind_some,o2]⟩
    ·exact .inr ⟨h2,nm,by rw [joinA,o1,Option.bind_some,o2]⟩
   ·rw [h1]
    exact .inr ⟨rfl,nm,by rw [joinA,o1]; rfl⟩
theorem dst_cmp {L : List FamY} (h : Dst L) : L.Pairwise (fun x y => cmpNm x y ≠ 0) :=
 List.Pairwise.imp (fun {x y} hxy e => hxy ((cmpS_zero _ _).1 e)) h
theorem ris_dst {L : List FamY} (h : Ris cmpNm L) : Dst L :=
 List.Pairwise.imp (fun {x y} hxy e => by
  have h0 : cmpNm x y = 0 := (cmpS_zero _ _).2 e
  omega) h
theorem nice_check {t : ByteArray} {N : List FamY} (ht : tenB t = true) (hr : Ris cmpNm N) (hg : ∀ f ∈ N,goodF f = true) : checkB t N = if N.length ≤ 30 ∧ ptsN N ≤ 120 then 0 else 14 := by
 have h : risesN (N.map FamY.nm) = true := by
  rw [risesN_iff]
  unfold Ris at hr ⊢
  rw [List.pairwise_map]
  exact hr
 unfold checkB
 rw [if_pos ⟨ht,List.all_eq_true.2 hg,h⟩]
theorem mergeG_cases {t : ByteArray} (ht : tenB t = true) (Ls : List (List FamY)) (hL : ∀ x ∈ Ls,Nice x) :
  ((∃ nm,joinA none nm Ls = none) ∧ mergeG t Ls.flatten = (13,⟨#[]⟩,[])) ∨
  (∃ N,Ris cmpNm N ∧ Nice N ∧ (∀ nm,joinA none nm Ls = some (look N nm)) ∧ mergeG t Ls.flatten = if N.length ≤ 30 ∧ ptsN N ≤ 120 then (0,t,N) else (14,⟨#[]⟩,[])) := by
 rcases joins_look Ls [] Nice.nil hL with ⟨M,h1,hM,o1⟩ | ⟨h1,nm,o1⟩
 ·obtain ⟨N,hp,hr⟩ := sort_ris cmpNm_cmp M (dst_cmp hM.dst)
  have hN : Nice N := ⟨ris_dst hr,fun f hf => hM.good f (hp.subset hf)⟩
  refine .inr ⟨N,hr,hN,fun nm => ?_,?_⟩
  ·rw [show look N nm = look M nm from look_eq hN.dst hM.dst (fun f => by rw [hp.mem_iff])]
   exact o1 nm
  ·unfold mergeG
   have hs : sortB M = some N := by
    unfold sortB
    rw [srts_self (fun f hf => goodF_ris (hM.good f hf)),Option.bind_some,sortN_some hp hr]
   rw [h1]
   dsimp only
   rw [hs]
   dsimp only
   rw [nice_check ht hr hN.good]
   by_cases hc : N.length ≤ 30 ∧ ptsN N ≤ 120
   ·rw [if_pos hc,if_pos rfl,if_pos hc]
   ·rw [if_neg hc,if_neg (by decide),if_neg hc]
 ·refine .inl ⟨⟨nm,o1⟩,?_⟩
  unfold mergeG
  rw [h1]
theorem GoodB.nice {t : ByteArray} {L : List FamY} (h : GoodB t L) : Nice L := ⟨h.names,h.good⟩
end Go.Proofs.YtjjnmefihdjglaaGreat
