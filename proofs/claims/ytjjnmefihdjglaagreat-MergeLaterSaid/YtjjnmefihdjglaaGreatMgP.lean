import Derived.Test.YtjjnmefihdjglaaGreatKW
set_option linter.all false
namespace Go.Proofs.YtjjnmefihdjglaaGreat
open Go.RowKit
theorem pig {α β : Type} (R : α → β → Prop) (wa : α → Nat) (wb : β → Nat) : ∀ (P : List α) (Q : List β), P.Pairwise (fun p p' => ∀ q, R p q → ¬ R p' q) → (∀ p ∈ P, ∃ q ∈ Q, R p q ∧ wa p ≤ wb q) → P.length ≤ Q.length ∧ (P.map wa).sum ≤ (Q.map wb).sum
 | [], Q, _, _ => by simp
 | p :: P, Q, hP, h => by
   obtain ⟨q, hq, hr, hw⟩ := h p (by simp)
   obtain ⟨s, t, rfl⟩ := List.append_of_mem hq
   rw [List.pairwise_cons] at hP
   have ih := pig R wa wb P (s ++ t) hP.2 (fun p' hp' => by
    obtain ⟨q', hq', hr', hw'⟩ := h p' (by simp [hp'])
    refine ⟨q', ?_, hr', hw'⟩
    have hne : q' ≠ q := fun e => hP.1 p' hp' q hr (e ▸ hr')
    simp only [List.mem_append, List.mem_cons] at hq' ⊢
    rcases hq' with h1 | h1 | h1
    ·exact .inl h1
    ·exact absurd h1 hne
    ·exact .inr h1)
   simp only [List.length_append, List.length_cons, List.map_append, List.map_cons, List.sum_append, List.sum_cons] at ih ⊢
   omega
theorem ptsN_sum : ∀ L : List FamY, ptsN L = (L.map (fun f => f.ps.length)).sum
 | [] => rfl
 | f :: L => by rw [ptsN, ptsN_sum L, List.map_cons, List.sum_cons]
theorem likeIn_iff (x : PtY) (l : List PtY) : likeIn x l = true ↔ ∃ y ∈ l, cmpY x y = 0 := by
 unfold likeIn
 rw [List.any_eq_true]
 simp
theorem likeIn_same {x q : PtY} (e : cmpY q x = 0) (l : List PtY) : likeIn x l = likeIn q l := by
 unfold likeIn
 congr 1
 funext y
 rw [cmpY_cmp.same e y]
theorem ins_ris {α : Type} {f : α → α → Int} (h : Cmp f) (x : α) : ∀ L : List α, Ris f L → (∀ y ∈ L, f x y ≠ 0) → ∃ M : List α, M.Perm (x :: L) ∧ Ris f M
 | [], _, _ => ⟨[x], List.Perm.refl _, by unfold Ris; simp⟩
 | y :: L, hL, hx => by
   by_cases hlt : f x y < 0
   ·exact ⟨x :: y :: L, List.Perm.refl _, (ris_cons2 h x y L).2 ⟨hlt, hL⟩⟩
   ·have h0 := hx y (by simp)
    have ha := h.anti x y
    have hL' := List.pairwise_cons.1 hL
    obtain ⟨M, hp, hr⟩ := ins_ris h x L hL'.2 (fun z hz => hx z (by simp [hz]))
    refine ⟨y :: M, (hp.cons y).trans (List.Perm.swap x y L), List.pairwise_cons.2 ⟨fun z hz => ?_, hr⟩⟩
    rcases List.mem_cons.1 (hp.subset hz) with rfl | hz
    ·omega
    ·exact hL'.1 z hz
theorem sort_ris {α : Type} {f : α → α → Int} (h : Cmp f) : ∀ L : List α, L.Pairwise (fun x y => f x y ≠ 0) → ∃ M : List α, M.Perm L ∧ Ris f M
 | [], _ => ⟨[], List.Perm.refl _, List.Pairwise.nil⟩
 | x :: L, hL => by
   rw [List.pairwise_cons] at hL
   obtain ⟨M, hp, hr⟩ := sort_ris h L hL.2
   obtain ⟨N, hq, hs⟩ := ins_ris h x M hr (fun y hy => hL.1 y (hp.subset hy))
   exact ⟨N, hq.trans (hp.cons x), hs⟩
theorem ris_nodup {α : Type} {f : α → α → Int} (h : Cmp f) {A : List α} (ha : Ris f A) : A.Nodup :=
 List.Pairwise.imp (fun {x y} hxy e => by have := h.refl x; rw [← e] at hxy; omega) ha
theorem ris_ext {α : Type} {f : α → α → Int} (h : Cmp f) {A B : List α} (ha : Ris f A) (hb : Ris f B) (he : ∀ x, x ∈ A ↔ x ∈ B) : A = B :=
 Ris.unique h ha hb ((List.perm_ext_iff_of_nodup (ris_nodup h ha) (ris_nodup h hb)).2 he)
theorem goodF_iff (f : FamY) : goodF f = true ↔ (nameB f.nm = true ∧ (0 ≤ f.k ∧ f.k ≤ 4) ∧ valueB f.un = true ∧ valueB f.he = true) ∧ (∀ p ∈ f.ps, goodY f.k p = true) ∧ Ris cmpY f.ps := by
 constructor
 ·intro h
  refine ⟨goodF_parts h, ?_, goodF_ris h⟩
  unfold goodF goodFamY at h
  simp only [Bool.and_eq_true] at h
  exact List.all_eq_true.1 h.2.1
 ·rintro ⟨⟨h1, h2, h3, h4⟩, h5, h6⟩
  unfold goodF goodFamY
  rw [h1, h3, h4, decide_eq_false (by omega), List.all_eq_true.2 h5, (risesK_iff _).2 ((ris_map _ _ _).2 h6)]
  rfl
structure PutIs (a b g : FamY) : Prop where
 nm : g.nm = b.nm
 k : g.k = b.k
 un : g.un = if b.un.toList.isEmpty = true then a.un else b.un
 he : g.he = if b.he.toList.isEmpty = true then a.he else b.he
 mem : ∀ p, p ∈ g.ps ↔ p ∈ b.ps ∨ (p ∈ a.ps ∧ likeIn p b.ps = false)
 good : goodF g = true
theorem putY_some {a b : FamY} (ha : goodF a = true) (hb : goodF b = true) (hn : a.nm = b.nm) (hk : a.k = b.k) : ∃ g, putY a b = some g ∧ PutIs a b g := by
 have ga := (goodF_iff a).1 ha
 have gb := (goodF_iff b).1 hb
 have hpw : (putH a b).ps.Pairwise (fun x y => cmpY x y ≠ 0) := by
  unfold putH
  dsimp only
  rw [List.pairwise_append]
  refine ⟨List.Pairwise.imp (fun {x y} h => by omega) gb.2.2, List.Pairwise.imp (fun {x y} h => by omega) (List.Pairwise.filter _ ga.2.2), fun x hx y hy e => ?_⟩
  have h1 := (List.mem_filter.1 hy).2
  have h2 : likeIn y b.ps = true := (likeIn_iff y b.ps).2 ⟨x, hx, by have := cmpY_cmp.anti x y; omega⟩
  rw [h2] at h1
  cases h1
 obtain ⟨M, hp, hr⟩ := sort_ris cmpY_cmp _ hpw
 have hmem : ∀ p, p ∈ M ↔ p ∈ b.ps ∨ (p ∈ a.ps ∧ likeIn p b.ps = false) := fun p => by
  rw [hp.mem_iff]
  unfold putH
  dsimp only
  rw [List.mem_append, List.mem_filter, Bool.not_eq_true']
 refine ⟨{ putH a b with ps := M }, ?_, rfl, rfl, rfl, rfl, hmem, (goodF_iff _).2 ⟨⟨gb.1.1, gb.1.2.1, ?_, ?_⟩, fun p hp' => ?_, hr⟩⟩
 ·unfold putY
  rw [if_pos ⟨hn, hk, ha, hb⟩, srt_some hp hr]
 ·unfold putH
  dsimp only
  split
  ·exact ga.1.2.2.1
  ·exact gb.1.2.2.1
 ·unfold putH
  dsimp only
  split
  ·exact ga.1.2.2.2
  ·exact gb.1.2.2.2
 ·show goodY b.k p = true
  rcases (hmem p).1 hp' with h | ⟨h, _⟩
  ·exact gb.2.1 p h
  ·exact hk ▸ ga.2.1 p h
theorem putY_no {a b : FamY} (hk : a.k ≠ b.k) : putY a b = none := if_neg (fun h => hk h.2.1)
theorem putY_put {a b g : FamY} (h : putY a b = some g) : PutIs a b g := by
 obtain ⟨h1, h2, h3, h4, _⟩ := putY_is h
 obtain ⟨g', e, hg⟩ := putY_some h3 h4 h1 h2
 rw [h] at e
 injection e with e
 exact e ▸ hg
theorem fam_ext {a b : FamY} (ha : goodF a = true) (hb : goodF b = true) (h1 : a.nm = b.nm) (h2 : a.k = b.k) (h3 : a.un = b.un) (h4 : a.he = b.he) (h5 : ∀ p, p ∈ a.ps ↔ p ∈ b.ps) : a = b := by
 have h6 : a.ps = b.ps := ris_ext cmpY_cmp (goodF_ris ha) (goodF_ris hb) h5
 obtain ⟨_, _, _, _, _⟩ := a
 obtain ⟨_, _, _, _, _⟩ := b
 simp only at h1 h2 h3 h4 h6
 subst h1 h2 h3 h4 h6
 rfl
theorem putY_self {f : FamY} (h : goodF f = true) : putY f f = some f := by
 obtain ⟨g, e, hg⟩ := putY_some h h rfl rfl
 rw [e, fam_ext hg.good h hg.nm hg.k (hg.un.trans (by split <;> rfl)) (hg.he.trans (by split <;> rfl)) (fun p => by rw [hg.mem]; exact ⟨fun k => k.elim id (fun k => k.1), .inl⟩)]
theorem putY_assoc {f g h : FamY} (hf : goodF f = true) (hg : goodF g = true) (hh : goodF h = true) (n1 : f.nm = g.nm) (n2 : g.nm = h.nm) : (putY f g).bind (fun u => putY u h) = (putY g h).bind (fun v => putY f v) := by
 by_cases k1 : f.k = g.k
 ·obtain ⟨u, eu, pu⟩ := putY_some hf hg n1 k1
  by_cases k2 : g.k = h.k
  ·obtain ⟨v, ev, pv⟩ := putY_some hg hh n2 k2
   rw [eu, ev, Option.bind_some, Option.bind_some]
   obtain ⟨x, ex, px⟩ := putY_some pu.good hh (pu.nm.trans n2) (pu.k.trans k2)
   obtain ⟨y, ey, py⟩ := putY_some hf pv.good ((n1.trans n2).trans pv.nm.symm) ((k1.trans k2).trans pv.k.symm)
   rw [ex, ey, fam_ext px.good py.good (px.nm.trans (py.nm.trans pv.nm).symm) (px.k.trans (py.k.trans pv.k).symm) ?_ ?_ ?_]
   ·rw [px.un, py.un, pu.un, pv.un]
    by_cases c1 : h.un.toList.isEmpty = true <;> by_cases c2 : g.un.toList.isEmpty = true <;> simp [c1, c2]
   ·rw [px.he, py.he, pu.he, pv.he]
    by_cases c1 : h.he.toList.isEmpty = true <;> by_cases c2 : g.he.toList.isEmpty = true <;> simp [c1, c2]
   ·intro p
    rw [px.mem, py.mem, pu.mem, pv.mem]
    have hl : likeIn p v.ps = false ↔ likeIn p h.ps = false ∧ likeIn p g.ps = false := by
     constructor
     ·intro h0
      have h1 : likeIn p h.ps = false := by
       cases e : likeIn p h.ps
       ·rfl
       ·obtain ⟨y, hy, hc⟩ := (likeIn_iff _ _).1 e
        rw [(likeIn_iff p v.ps).2 ⟨y, (pv.mem y).2 (.inl hy), hc⟩] at h0
        cases h0
      refine ⟨h1, ?_⟩
      cases e : likeIn p g.ps
      ·rfl
      ·obtain ⟨y, hy, hc⟩ := (likeIn_iff _ _).1 e
       rw [(likeIn_iff p v.ps).2 ⟨y, (pv.mem y).2 (.inr ⟨hy, by rw [likeIn_same hc, h1]⟩), hc⟩] at h0
       cases h0
     ·rintro ⟨h1, h2⟩
      cases e : likeIn p v.ps
      ·rfl
      ·obtain ⟨y, hy, hc⟩ := (likeIn_iff _ _).1 e
       rcases (pv.mem y).1 hy with hy | ⟨hy, _⟩
       ·rw [(likeIn_iff p h.ps).2 ⟨y, hy, hc⟩] at h1; cases h1
       ·rw [(likeIn_iff p g.ps).2 ⟨y, hy, hc⟩] at h2; cases h2
    rw [hl]
    constructor
    ·rintro (h1 | ⟨h1 | ⟨h1, h2⟩, h3⟩)
     ·exact .inl (.inl h1)
     ·exact .inl (.inr ⟨h1, h3⟩)
     ·exact .inr ⟨h1, h3, h2⟩
    ·rintro ((h1 | ⟨h1, h3⟩) | ⟨h1, h3, h2⟩)
     ·exact .inl h1
     ·exact .inr ⟨.inl h1, h3⟩
     ·exact .inr ⟨.inr ⟨h1, h2⟩, h3⟩
  ·rw [eu, Option.bind_some, putY_no (a := u) (b := h) (by rw [pu.k]; exact k2), putY_no (a := g) (b := h) k2]
   rfl
 ·rw [putY_no k1, Option.bind_none]
  cases e : putY g h with
  | none => rfl
  | some v => rw [Option.bind_some, putY_no (by rw [(putY_put e).k, ← (putY_is e).2.1]; exact k1)]
theorem ris_like {A : List PtY} (h : Ris cmpY A) : A.Pairwise (fun p p' => ∀ q, cmpY p q = 0 → ¬ cmpY p' q = 0) :=
 List.Pairwise.imp (fun {x y} hxy q h1 h2 => by
  have e1 := cmpY_cmp.same h1 y
  have e2 := cmpY_cmp.anti y q
  omega) h
theorem PutIs.len {a b g : FamY} (h : PutIs a b g) (ha : goodF a = true) (hb : goodF b = true) : a.ps.length ≤ g.ps.length ∧ b.ps.length ≤ g.ps.length := by
 constructor
 ·refine (pig (fun p q => cmpY p q = 0) (fun _ => 0) (fun _ => 0) a.ps g.ps (ris_like (goodF_ris ha)) (fun p hp => ?_)).1
  cases e : likeIn p b.ps
  ·exact ⟨p, (h.mem p).2 (.inr ⟨hp, e⟩), cmpY_cmp.refl p, Nat.le_refl _⟩
  ·obtain ⟨y, hy, hc⟩ := (likeIn_iff _ _).1 e
   exact ⟨y, (h.mem y).2 (.inl hy), hc, Nat.le_refl _⟩
 ·exact (pig (fun p q => cmpY p q = 0) (fun _ => 0) (fun _ => 0) b.ps g.ps (ris_like (goodF_ris hb)) (fun p hp => ⟨p, (h.mem p).2 (.inl hp), cmpY_cmp.refl p, Nat.le_refl _⟩)).1
def look (L : List FamY) (nm : ByteArray) : Option FamY := L.find? (fun f => decide (f.nm = nm))
def Dst (L : List FamY) : Prop := L.Pairwise (fun x y => x.nm ≠ y.nm)
theorem look_mem {L : List FamY} {nm : ByteArray} {f : FamY} (h : look L nm = some f) : f ∈ L ∧ f.nm = nm :=
 ⟨List.mem_of_find?_eq_some h, by simpa using List.find?_some h⟩
theorem look_of : ∀ {L : List FamY}, Dst L → ∀ {f : FamY}, f ∈ L → look L f.nm = some f
 | x :: L, hd, f, hf => by
   unfold look
   rcases List.mem_cons.1 hf with rfl | hf
   ·rw [List.find?_cons_of_pos (by simp)]
   ·rw [List.find?_cons_of_neg (by simpa using (List.pairwise_cons.1 hd).1 f hf)]
    exact look_of (List.pairwise_cons.1 hd).2 hf
theorem look_iff {L : List FamY} (hd : Dst L) {nm : ByteArray} {f : FamY} : look L nm = some f ↔ f ∈ L ∧ f.nm = nm :=
 ⟨look_mem, fun h => h.2 ▸ look_of hd h.1⟩
theorem look_none {L : List FamY} {nm : ByteArray} : look L nm = none ↔ ∀ f ∈ L, f.nm ≠ nm := by
 unfold look
 rw [List.find?_eq_none]
 simp
theorem look_eq {L M : List FamY} (hL : Dst L) (hM : Dst M) {n m : ByteArray} (h : ∀ f : FamY, f ∈ L ∧ f.nm = n ↔ f ∈ M ∧ f.nm = m) : look L n = look M m := by
 cases e : look M m with
 | some f => rw [(look_iff hL)]; exact (h f).2 (look_mem e)
 | none => rw [look_none]; intro f hf hn; exact look_none.1 e f ((h f).1 ⟨hf, hn⟩).1 ((h f).1 ⟨hf, hn⟩).2
theorem dst_iff (L : List FamY) : Dst L ↔ (L.map FamY.nm).Nodup := by
 unfold Dst List.Nodup
 rw [List.pairwise_map]
noncomputable def opF : Option FamY → Option FamY → Option (Option FamY)
 | none, y => some y
 | some x, none => some (some x)
 | some x, some y => (putY x y).map some
theorem opF_two (x y : FamY) : opF (some x) (some y) = (putY x y).map some := rfl
theorem opF_none (x : Option FamY) : opF x none = some x := by cases x <;> rfl
def OkO (nm : ByteArray) (o : Option FamY) : Prop := ∀ f, o = some f → goodF f = true ∧ f.nm = nm
theorem OkO.op {nm : ByteArray} {u v w : Option FamY} (hu : OkO nm u) (hv : OkO nm v) (h : opF u v = some w) : OkO nm w := by
 cases u with
 | none => injection h with h; exact h ▸ hv
 | some x =>
   cases v with
   | none => injection h with h; exact h ▸ hu
   | some y =>
     intro f hf
     subst hf
     rw [opF_two] at h
     cases e : putY x y with
     | none => rw [e] at h; cases h
     | some g =>
       rw [e, Option.map_some] at h
       injection h with h
       injection h with h
       subst h
       exact ⟨(putY_put e).good, (putY_put e).nm.trans (hv y rfl).2⟩
theorem opF_assoc {nm : ByteArray} {o1 o2 o3 : Option FamY} (h1 : OkO nm o1) (h2 : OkO nm o2) (h3 : OkO nm o3) : (opF o1 o2).bind (fun u => opF u o3) = (opF o2 o3).bind (fun v => opF o1 v) := by
 cases o1 with
 | none =>
   show opF o2 o3 = (opF o2 o3).bind (fun v => some v)
   cases opF o2 o3 <;> rfl
 | some x =>
   cases o2 with
   | none => rfl
   | some y =>
     cases o3 with
     | none =>
       show ((putY x y).map some).bind _ = (putY x y).map some
       cases putY x y <;> rfl
     | some z =>
       have k := putY_assoc (h1 x rfl).1 (h2 y rfl).1 (h3 z rfl).1 ((h1 x rfl).2.trans (h2 y rfl).2.symm) ((h2 y rfl).2.trans (h3 z rfl).2.symm)
       show ((putY x y).map some).bind _ = ((putY y z).map some).bind _
       cases e1 : putY x y with
       | none =>
         rw [e1] at k
         cases e2 : putY y z with
         | none => rfl
         | some v =>
           rw [e2] at k
           show none = (putY x v).map some
           rw [← show _ = putY x v from k]
           rfl
       | some u =>
         rw [e1] at k
         cases e2 : putY y z with
         | none =>
           rw [e2] at k
           show (putY u z).map some = none
           rw [show putY u z = _ from k]
           rfl
         | some v =>
           rw [e2] at k
           show (putY u z).map some = (putY x v).map some
           rw [show putY u z = putY x v from k]
theorem opF_len {nm : ByteArray} {u v w : Option FamY} (hu : OkO nm u) (hv : OkO nm v) (h : opF u v = some w) :
  (∀ f, u = some f → ∃ g, w = some g ∧ f.ps.length ≤ g.ps.length) ∧ (∀ f, v = some f → ∃ g, w = some g ∧ f.ps.length ≤ g.ps.length) := by
 cases u with
 | none =>
   injection h with h
   subst h
   exact ⟨(fun f hf => by cases hf), fun f hf => ⟨f, hf, Nat.le_refl _⟩⟩
 | some x =>
   cases v with
   | none =>
     injection h with h
     subst h
     exact ⟨(fun f hf => ⟨f, hf, Nat.le_refl _⟩), fun f hf => by cases hf⟩
   | some y =>
     rw [opF_two] at h
     cases e : putY x y with
     | none => rw [e] at h; cases h
     | some g =>
       rw [e, Option.map_some] at h
       injection h with h
       subst h
       have k := (putY_put e).len (hu x rfl).1 (hv y rfl).1
       exact ⟨fun f hf => by injection hf with hf; subst hf; exact ⟨g, rfl, k.1⟩, fun f hf => by injection hf with hf; subst hf; exact ⟨g, rfl, k.2⟩⟩
theorem takeY_look {L : List FamY} (hd : Dst L) (f : FamY) :
  (∃ M, takeY L f = some M ∧ Dst M ∧ opF (look L f.nm) (some f) = some (look M f.nm) ∧ (∀ nm, nm ≠ f.nm → look M nm = look L nm) ∧ (∀ x ∈ M, x ∈ L ∨ x = f ∨ ∃ y ∈ L, putY y f = some x)) ∨ (takeY L f = none ∧ opF (look L f.nm) (some f) = none) := by
 rcases nmAt_cases f.nm L 0 with ⟨e, hn⟩ | ⟨j, hj, e, hn⟩
 ·have hD : Dst (L ++ [f]) := List.pairwise_append.2 ⟨hd, List.pairwise_singleton _ _, fun x hx y hy => by rw [List.mem_singleton] at hy; subst hy; exact hn x hx⟩
  refine .inl ⟨L ++ [f], by unfold takeY; rw [e, if_pos (by decide)], hD, ?_, fun nm hne => look_eq hD hd (fun x => ?_), fun x hx => ?_⟩
  ·rw [look_none.2 hn, look_of hD (by simp)]; rfl
  ·constructor
   ·rintro ⟨h1, h2⟩
    rcases List.mem_append.1 h1 with h1 | h1
    ·exact ⟨h1, h2⟩
    ·rw [List.mem_singleton] at h1
     subst h1
     exact absurd h2.symm hne
   ·rintro ⟨h1, h2⟩
    exact ⟨List.mem_append_left _ h1, h2⟩
  ·rcases List.mem_append.1 hx with h1 | h1
   ·exact .inl h1
   ·exact .inr (.inl (List.mem_singleton.1 h1))
 ·rw [Nat.zero_add] at e
  have hl : look L f.nm = some L[j] := (look_iff hd).2 ⟨List.getElem_mem hj, hn⟩
  have ht : takeY L f = (putY L[j] f).map (fun g => L.set j g) := by
   unfold takeY
   rw [e, if_neg (by omega)]
   simp [hj]
  rw [ht, hl]
  cases ep : putY L[j] f with
  | none => refine .inr ⟨rfl, ?_⟩; rw [opF_two, ep]; rfl
  | some g =>
    have hg : g.nm = f.nm := (putY_put ep).nm
    have hD : Dst (L.set j g) := by
     rw [dst_iff, List.map_set, hg, ← hn, show L[j].nm = (L.map FamY.nm)[j]'(by simpa using hj) from by simp, List.set_getElem_self]
     exact (dst_iff L).1 hd
    have hm : g ∈ L.set j g := List.mem_set hj g
    refine .inl ⟨L.set j g, rfl, hD, ?_, fun nm hne => look_eq hD hd (fun x => ?_), fun x hx => ?_⟩
    ·rw [(look_iff hD).2 ⟨hm, hg⟩]
     rw [opF_two, ep]
     rfl
    ·constructor
     ·rintro ⟨h1, h2⟩
      rcases List.mem_or_eq_of_mem_set h1 with h1 | rfl
      ·exact ⟨h1, h2⟩
      ·exact absurd (h2.symm.trans hg) hne
     ·rintro ⟨h1, h2⟩
      refine ⟨?_, h2⟩
      obtain ⟨i, hi, rfl⟩ := List.getElem_of_mem h1
      have hij : j ≠ i := fun h0 => by subst h0; exact hne (h2.symm.trans hn)
      have : (L.set j g)[i]'(by simpa using hi) = L[i] := List.getElem_set_ne hij _
      rw [← this]
      exact List.getElem_mem _
    ·rcases List.mem_or_eq_of_mem_set hx with h1 | rfl
     ·exact .inl h1
     ·exact .inr (.inr ⟨L[j], List.getElem_mem hj, ep⟩)
theorem takeY_good {L M : List FamY} {f : FamY} (hd : Dst L) (h : takeY L f = some M) (gL : ∀ x ∈ L, goodF x = true) (gf : goodF f = true) : ∀ x ∈ M, goodF x = true := by
 rcases takeY_look hd f with ⟨M', h1, _, _, _, h2⟩ | ⟨h1, _⟩
 ·rw [h] at h1
  injection h1 with h1
  subst h1
  intro x hx
  rcases h2 x hx with h3 | rfl | ⟨y, _, hy⟩
  ·exact gL x h3
  ·exact gf
  ·exact (putY_put hy).good
 ·rw [h] at h1; cases h1
theorem takesY_look : ∀ (fs L : List FamY), Dst L → Dst fs →
  (∃ M, takesY L fs = some M ∧ Dst M ∧ (∀ nm, opF (look L nm) (look fs nm) = some (look M nm)) ∧ ((∀ x ∈ L, goodF x = true) → (∀ x ∈ fs, goodF x = true) → ∀ x ∈ M, goodF x = true)) ∨ (takesY L fs = none ∧ ∃ nm, opF (look L nm) (look fs nm) = none)
 | [], L, hd, _ => .inl ⟨L, rfl, hd, fun nm => opF_none _, fun h _ => h⟩
 | f :: fs, L, hd, hfs => by
   have hp := List.pairwise_cons.1 hfs
   have lf : look (f :: fs) f.nm = some f := look_of hfs (by simp)
   have ln : look fs f.nm = none := look_none.2 (fun x hx => (hp.1 x hx).symm)
   have lo : ∀ nm, nm ≠ f.nm → look (f :: fs) nm = look fs nm := fun nm hne => by
    unfold look
    rw [List.find?_cons_of_neg (by simpa using hne.symm)]
   rw [takesY]
   rcases takeY_look hd f with ⟨M1, h1, d1, o1, n1, _⟩ | ⟨h1, o1⟩
   ·rw [h1, Option.bind_some]
    rcases takesY_look fs M1 d1 hp.2 with ⟨M, h2, d2, o2, g2⟩ | ⟨h2, nm, o2⟩
    ·refine .inl ⟨M, h2, d2, fun nm => ?_, fun gL gf => g2 (takeY_good hd h1 gL (gf f (by simp))) (fun x hx => gf x (by simp [hx]))⟩
     by_cases hne : nm = f.nm
     ·subst hne
      have := o2 f.nm
      rw [ln, opF_none] at this
      rw [lf, o1, this]
     ·rw [lo nm hne, ← n1 nm hne, o2]
    ·refine .inr ⟨h2, nm, ?_⟩
     have hne : nm ≠ f.nm := fun h0 => by rw [h0, ln, opF_none] at o2; cases o2
     rw [lo nm hne, ← n1 nm hne, o2]
   ·rw [h1]
    exact .inr ⟨rfl, f.nm, by rw [lf]; exact o1⟩
noncomputable def joinA (acc : Option FamY) (nm : ByteArray) : List (List FamY) → Option (Option FamY)
 | [] => some acc
 | x :: xs => (opF acc (look x nm)).bind fun u => joinA u nm xs
theorem joinA_append (nm : ByteArray) (ys : List (List FamY)) : ∀ (xs : List (List FamY)) (acc : Option FamY), joinA acc nm (xs ++ ys) = (joinA acc nm xs).bind fun u => joinA u nm ys
 | [], acc => rfl
 | x :: xs, acc => by
   rw [List.cons_append, joinA, joinA]
   cases opF acc (look x nm) with
   | none => rfl
   | some u => rw [Option.bind_some, Option.bind_some, joinA_append nm ys xs u]
structure Nice (L : List FamY) : Prop where
 dst : Dst L
 good : ∀ f ∈ L, goodF f = true
theorem Nice.ok {L : List FamY} (h : Nice L) (nm : ByteArray) : OkO nm (look L nm) := fun f hf => ⟨h.good f (look_mem hf).1, (look_mem hf).2⟩
theorem Nice.nil : Nice [] := ⟨List.Pairwise.nil, fun f hf => by cases hf⟩
theorem joins_look : ∀ (Ls : List (List FamY)) (acc : List FamY), Nice acc → (∀ x ∈ Ls, Nice x) →
  (∃ M, takesY acc Ls.flatten = some M ∧ Nice M ∧ ∀ nm, joinA (look acc nm) nm Ls = some (look M nm)) ∨ (takesY acc Ls.flatten = none ∧ ∃ nm, joinA (look acc nm) nm Ls = none)
 | [], acc, hn, _ => .inl ⟨acc, rfl, hn, fun nm => rfl⟩
 | x :: xs, acc, hn, hx => by
   have hx0 := hx x (by simp)
   rw [List.flatten_cons, takesY_append]
   rcases takesY_look x acc hn.dst hx0.dst with ⟨M1, h1, d1, o1, g1⟩ | ⟨h1, nm, o1⟩
   ·rw [h1, Option.bind_some]
    rcases joins_look xs M1 ⟨d1, g1 hn.good hx0.good⟩ (fun y hy => hx y (by simp [hy])) with ⟨M, h2, n2, o2⟩ | ⟨h2, nm, o2⟩
    ·exact .inl ⟨M, h2, n2, fun nm => by rw [joinA, o1, Option.bind_some, o2]⟩
    ·exact .inr ⟨h2, nm, by rw [joinA, o1, Option.bind_some, o2]⟩
   ·rw [h1]
    exact .inr ⟨rfl, nm, by rw [joinA, o1]; rfl⟩
theorem dst_cmp {L : List FamY} (h : Dst L) : L.Pairwise (fun x y => cmpNm x y ≠ 0) :=
 List.Pairwise.imp (fun {x y} hxy e => hxy ((cmpS_zero _ _).1 e)) h
theorem ris_dst {L : List FamY} (h : Ris cmpNm L) : Dst L :=
 List.Pairwise.imp (fun {x y} hxy e => by
  have h0 : cmpNm x y = 0 := (cmpS_zero _ _).2 e
  omega) h
theorem nice_check {t : ByteArray} {N : List FamY} (ht : tenB t = true) (hr : Ris cmpNm N) (hg : ∀ f ∈ N, goodF f = true) : checkB t N = if N.length ≤ 30 ∧ ptsN N ≤ 120 then 0 else 14 := by
 have h : risesN (N.map FamY.nm) = true := by
  rw [risesN_iff]
  unfold Ris at hr ⊢
  rw [List.pairwise_map]
  exact hr
 unfold checkB
 rw [if_pos ⟨ht, List.all_eq_true.2 hg, h⟩]
theorem mergeG_cases {t : ByteArray} (ht : tenB t = true) (Ls : List (List FamY)) (hL : ∀ x ∈ Ls, Nice x) :
  ((∃ nm, joinA none nm Ls = none) ∧ mergeG t Ls.flatten = (13, ⟨#[]⟩, [])) ∨
  (∃ N, Ris cmpNm N ∧ Nice N ∧ (∀ nm, joinA none nm Ls = some (look N nm)) ∧ mergeG t Ls.flatten = if N.length ≤ 30 ∧ ptsN N ≤ 120 then (0, t, N) else (14, ⟨#[]⟩, [])) := by
 rcases joins_look Ls [] Nice.nil hL with ⟨M, h1, hM, o1⟩ | ⟨h1, nm, o1⟩
 ·obtain ⟨N, hp, hr⟩ := sort_ris cmpNm_cmp M (dst_cmp hM.dst)
  have hN : Nice N := ⟨ris_dst hr, fun f hf => hM.good f (hp.subset hf)⟩
  refine .inr ⟨N, hr, hN, fun nm => ?_, ?_⟩
  ·rw [show look N nm = look M nm from look_eq hN.dst hM.dst (fun f => by rw [hp.mem_iff])]
   exact o1 nm
  ·unfold mergeG
   have hs : sortB M = some N := by
    unfold sortB
    rw [srts_self (fun f hf => goodF_ris (hM.good f hf)), Option.bind_some, sortN_some hp hr]
   rw [h1]
   dsimp only
   rw [hs]
   dsimp only
   rw [nice_check ht hr hN.good]
   by_cases hc : N.length ≤ 30 ∧ ptsN N ≤ 120
   ·rw [if_pos hc, if_pos rfl, if_pos hc]
   ·rw [if_neg hc, if_neg (by decide), if_neg hc]
 ·refine .inl ⟨⟨nm, o1⟩, ?_⟩
  unfold mergeG
  rw [h1]
theorem look_ext {A B : List FamY} (ha : Ris cmpNm A) (hb : Ris cmpNm B) (h : ∀ nm, look A nm = look B nm) : A = B :=
 ris_ext cmpNm_cmp ha hb (fun x => ⟨fun hx => (look_mem (by rw [← h]; exact look_of (ris_dst ha) hx)).1, fun hx => (look_mem (by rw [h]; exact look_of (ris_dst hb) hx)).1⟩)
theorem mergeG_congr {t : ByteArray} (ht : tenB t = true) {Ls Ks : List (List FamY)} (hL : ∀ x ∈ Ls, Nice x) (hK : ∀ x ∈ Ks, Nice x) (h : ∀ nm, joinA none nm Ls = joinA none nm Ks) : mergeG t Ls.flatten = mergeG t Ks.flatten := by
 rcases mergeG_cases ht Ls hL with ⟨⟨n1, o1⟩, e1⟩ | ⟨N1, r1, _, o1, e1⟩ <;> rcases mergeG_cases ht Ks hK with ⟨⟨n2, o2⟩, e2⟩ | ⟨N2, r2, _, o2, e2⟩
 ·rw [e1, e2]
 ·rw [h, o2] at o1; cases o1
 ·rw [← h, o1] at o2; cases o2
 ·have : N1 = N2 := look_ext r1 r2 (fun nm => by have := h nm; rw [o1, o2] at this; injection this)
  rw [e1, e2, this]
theorem mergeG_eq {t : ByteArray} (ht : tenB t = true) {Ls : List (List FamY)} (hL : ∀ x ∈ Ls, Nice x) {N : List FamY} (hN : GoodB t N) (h : ∀ nm, joinA none nm Ls = some (look N nm)) : mergeG t Ls.flatten = (0, t, N) := by
 rcases mergeG_cases ht Ls hL with ⟨⟨n1, o1⟩, e1⟩ | ⟨N1, r1, _, o1, e1⟩
 ·rw [h] at o1; cases o1
 ·have : N1 = N := look_ext r1 hN.risN (fun nm => by have := h nm; rw [o1] at this; injection this)
  rw [e1, this, if_pos ⟨hN.len, hN.pts⟩]
theorem GoodB.nice {t : ByteArray} {L : List FamY} (h : GoodB t L) : Nice L := ⟨h.names, h.good⟩
end Go.Proofs.YtjjnmefihdjglaaGreat
