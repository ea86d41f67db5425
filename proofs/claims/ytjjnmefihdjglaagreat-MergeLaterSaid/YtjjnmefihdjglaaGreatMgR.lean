import Derived.Test.YtjjnmefihdjglaaGreatMgQ
set_option linter.all false
namespace Go.Proofs.YtjjnmefihdjglaaGreat
open Go.RowKit
def ptO (o : Option FamY) (q : PtY) : Option PtY := o.bind fun f => f.ps.find? (fun p => cmpY p q == 0)
def ptIn (nm : ByteArray) (q : PtY) : List FamY → Option PtY
 | [] => none
 | f :: l => if f.nm = nm then (f.ps.find? (fun p => cmpY p q == 0)).or (ptIn nm q l) else ptIn nm q l
theorem ptIn_none {nm : ByteArray} {q : PtY} : ∀ {L : List FamY}, (∀ f ∈ L, f.nm ≠ nm) → ptIn nm q L = none
 | [], _ => rfl
 | f :: l, h => by rw [ptIn, if_neg (h f (by simp)), ptIn_none (fun x hx => h x (by simp [hx]))]
theorem ptIn_look {nm : ByteArray} {q : PtY} : ∀ {L : List FamY}, Dst L → ptIn nm q L = ptO (look L nm) q
 | [], _ => rfl
 | f :: l, h => by
   have hp := List.pairwise_cons.1 h
   unfold look
   rw [ptIn]
   by_cases hn : f.nm = nm
   ·rw [if_pos hn, List.find?_cons_of_pos (by simpa using hn), ptIn_none (fun x hx e => hp.1 x hx (hn.trans e.symm)), Option.or_none]
    rfl
   ·rw [if_neg hn, List.find?_cons_of_neg (by simpa using hn)]
    exact ptIn_look hp.2
theorem find_iff {l : List PtY} (h : Ris cmpY l) {q y : PtY} : l.find? (fun p => cmpY p q == 0) = some y ↔ y ∈ l ∧ cmpY y q = 0 := by
 constructor
 ·intro e
  exact ⟨List.mem_of_find?_eq_some e, by simpa using List.find?_some e⟩
 ·rintro ⟨h1, h2⟩
  cases e : l.find? (fun p => cmpY p q == 0) with
  | none => rw [List.find?_eq_none] at e; exact absurd h2 (by simpa using e y h1)
  | some z =>
    have hz := List.mem_of_find?_eq_some e
    have hz2 : cmpY z q = 0 := by simpa using List.find?_some e
    rcases Classical.em (z = y) with rfl | hne
    ·rfl
    ·exfalso
     have hd : l.Pairwise (fun a b => cmpY a q = 0 → ¬ cmpY b q = 0) := List.Pairwise.imp (fun {a b} k => k q) (ris_like h)
     obtain ⟨s, t, rfl⟩ := List.append_of_mem hz
     rw [List.pairwise_append, List.pairwise_cons] at hd
     rcases List.mem_append.1 h1 with k | k
     ·exact hd.2.2 y k z (by simp) h2 hz2
     ·rcases List.mem_cons.1 k with k | k
      ·exact hne k.symm
      ·exact hd.2.1.1 y k hz2 h2
theorem find_no {l : List PtY} {q : PtY} : l.find? (fun p => cmpY p q == 0) = none ↔ ∀ y ∈ l, cmpY y q ≠ 0 := by
 rw [List.find?_eq_none]
 simp
theorem opF_pt {nm : ByteArray} {u v w : Option FamY} (hu : OkO nm u) (hv : OkO nm v) (h : opF u v = some w) (q : PtY) : ptO w q = (ptO v q).or (ptO u q) := by
 cases u with
 | none => injection h with h; subst h; exact (Option.or_none).symm
 | some x =>
   cases v with
   | none => injection h with h; subst h; rfl
   | some y =>
     rw [opF_two] at h
     cases e : putY x y with
     | none => rw [e] at h; cases h
     | some g =>
       rw [e, Option.map_some] at h
       injection h with h
       subst h
       have k := putY_put e
       have rg := goodF_ris k.good
       have rx := goodF_ris (hu x rfl).1
       have ry := goodF_ris (hv y rfl).1
       show g.ps.find? (fun p => cmpY p q == 0) = (y.ps.find? (fun p => cmpY p q == 0)).or (x.ps.find? (fun p => cmpY p q == 0))
       cases ey : y.ps.find? (fun p => cmpY p q == 0) with
       | some z =>
         obtain ⟨h1, h2⟩ := (find_iff ry).1 ey
         exact (find_iff rg).2 ⟨(k.mem z).2 (.inl h1), h2⟩
       | none =>
         have ny := find_no.1 ey
         show _ = x.ps.find? (fun p => cmpY p q == 0)
         cases ex : x.ps.find? (fun p => cmpY p q == 0) with
         | some z =>
           obtain ⟨h1, h2⟩ := (find_iff rx).1 ex
           refine (find_iff rg).2 ⟨(k.mem z).2 (.inr ⟨h1, ?_⟩), h2⟩
           cases el : likeIn z y.ps
           ·rfl
           ·obtain ⟨y', hy, hc⟩ := (likeIn_iff _ _).1 el
            exact absurd (by rw [← cmpY_cmp.same hc q]; exact h2) (ny y' hy)
         | none =>
           have nx := find_no.1 ex
           refine find_no.2 (fun p hp => ?_)
           rcases (k.mem p).1 hp with h1 | ⟨h1, _⟩
           ·exact ny p h1
           ·exact nx p h1
def lastO (o : Option PtY) : List (Option PtY) → Option PtY
 | [] => o
 | p :: l => lastO (p.or o) l
theorem lastO_append (l m : List (Option PtY)) : ∀ o, lastO o (l ++ m) = lastO (lastO o l) m := by
 induction l with
 | nil => intro o; rfl
 | cons p l ih => intro o; exact ih _
theorem lastO_some : ∀ (l : List (Option PtY)) (o : Option PtY), (o.isSome = true ∨ ∃ x ∈ l, x.isSome = true) → (lastO o l).isSome = true
 | [], o, h => by
   rcases h with h | ⟨x, hx, _⟩
   ·exact h
   ·cases hx
 | p :: l, o, h => by
   refine lastO_some l (p.or o) ?_
   rcases h with h | ⟨x, hx, h⟩
   ·cases p <;> simp_all
   ·rcases List.mem_cons.1 hx with rfl | hx
    ·left; cases x <;> simp_all
    ·exact .inr ⟨x, hx, h⟩
theorem joinA_pt {nm : ByteArray} (q : PtY) : ∀ (Ls : List (List FamY)) {acc w : Option FamY}, OkO nm acc → (∀ x ∈ Ls, Nice x) → joinA acc nm Ls = some w → ptO w q = lastO (ptO acc q) (Ls.map (fun x => ptIn nm q x))
 | [], acc, w, _, _, h => by injection h with h; subst h; rfl
 | x :: xs, acc, w, ha, hx, h => by
   have hn := hx x (by simp)
   rw [joinA] at h
   cases e : opF acc (look x nm) with
   | none => rw [e] at h; cases h
   | some u =>
     rw [e, Option.bind_some] at h
     have k := opF_pt ha (hn.ok nm) e q
     rw [joinA_pt q xs (ha.op (hn.ok nm) e) (fun y hy => hx y (by simp [hy])) h, List.map_cons, lastO, k, ptIn_look hn.dst]
theorem later_of {bs : List (ByteArray × List FamY)} {t : ByteArray} {N : List FamY} (h : mergeY bs = (0, t, N)) :
  (∀ f ∈ N, ∀ p ∈ f.ps, lastO none (bs.map (fun b => ptIn f.nm p b.2)) = some p) ∧ (∀ b ∈ bs, ∀ f ∈ b.2, ∀ p ∈ f.ps, (ptIn f.nm p N).isSome = true) := by
 cases bs with
 | nil =>
   injection h with _ h
   injection h with h1 h2
   subst h2
   exact ⟨(fun f hf => by cases hf), fun b hb => by cases hb⟩
 | cons b0 l =>
   rcases merge_cases b0 l with ⟨_, e⟩ | ⟨hc, ⟨_, e⟩ | ⟨hn, ⟨_, e⟩ | ⟨M, hr, hM, ho, e⟩⟩⟩
   ·rw [h] at e; cases e
   ·rw [h] at e; cases e
   ·rw [h] at e; cases e
   ·have e2 : N = M := by
     by_cases hz : M.length ≤ 30 ∧ ptsN M ≤ 120
     ·rw [h, if_pos hz] at e
      injection e with _ e
      injection e with e1 e2
     ·rw [h, if_neg hz] at e; cases e
    subst e2
    have hG : ∀ x ∈ (b0 :: l).map (fun b => b.2), Nice x := fun x hx => by
     obtain ⟨b, hb, rfl⟩ := List.mem_map.1 hx
     exact nice_of (hc b hb)
    have key : ∀ nm q, ptIn nm q N = lastO none ((b0 :: l).map (fun b => ptIn nm q b.2)) := fun nm q => by
     rw [ptIn_look hM.dst, joinA_pt (nm := nm) q _ (acc := none) (fun f hf => by cases hf) hG (ho nm), List.map_map]
     rfl
    refine ⟨fun f hf p hp => ?_, fun b hb f hf p hp => ?_⟩
    ·rw [← key, ptIn_look hM.dst, look_of hM.dst hf]
     exact (find_iff (goodF_ris (hM.good f hf))).2 ⟨hp, cmpY_cmp.refl p⟩
    ·rw [key]
     refine lastO_some _ _ (.inr ⟨ptIn f.nm p b.2, List.mem_map.2 ⟨b, hb, rfl⟩, ?_⟩)
     have nb := nice_of (hc b hb)
     rw [ptIn_look nb.dst, look_of nb.dst hf, show ptO (some f) p = some p from (find_iff (goodF_ris (nb.good f hf))).2 ⟨hp, cmpY_cmp.refl p⟩]
     rfl
end Go.Proofs.YtjjnmefihdjglaaGreat
