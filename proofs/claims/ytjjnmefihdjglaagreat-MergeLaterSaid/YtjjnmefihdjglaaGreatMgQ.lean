import Derived.Test.YtjjnmefihdjglaaGreatMgP
set_option linter.all false
namespace Go.Proofs.YtjjnmefihdjglaaGreat
open Go.RowKit
theorem mergeG_zero (t : ByteArray) (fs : List FamY) : (mergeG t fs).1 = 0 ∨ (mergeG t fs).2 = (⟨#[]⟩, []) := by
 unfold mergeG
 split
 ·exact .inr rfl
 ·split
  ·exact .inr rfl
  ·split
   ·exact .inl rfl
   ·exact .inr rfl
theorem mergeY_zero (bs : List (ByteArray × List FamY)) : (mergeY bs).1 = 0 ∨ (mergeY bs).2 = (⟨#[]⟩, []) := by
 unfold mergeY
 split
 ·exact .inr rfl
 ·split
  ·split
   ·exact mergeG_zero _ _
   ·exact .inr rfl
  ·exact .inr rfl
theorem merge_cases (b0 : ByteArray × List FamY) (l : List (ByteArray × List FamY)) :
  ((∃ b ∈ b0 :: l, checkB b.1 b.2 ≠ 0) ∧ mergeY (b0 :: l) = (19, ⟨#[]⟩, [])) ∨
  ((∀ b ∈ b0 :: l, checkB b.1 b.2 = 0) ∧ ((∃ b ∈ b0 :: l, b.1 ≠ b0.1) ∧ mergeY (b0 :: l) = (18, ⟨#[]⟩, []) ∨
    ((∀ b ∈ b0 :: l, b.1 = b0.1) ∧ ((∃ nm, joinA none nm ((b0 :: l).map (fun b => b.2)) = none) ∧ mergeY (b0 :: l) = (13, ⟨#[]⟩, []) ∨
      ∃ N, Ris cmpNm N ∧ Nice N ∧ (∀ nm, joinA none nm ((b0 :: l).map (fun b => b.2)) = some (look N nm)) ∧ mergeY (b0 :: l) = if N.length ≤ 30 ∧ ptsN N ≤ 120 then (0, b0.1, N) else (14, ⟨#[]⟩, []))))) := by
 by_cases hc : ∀ b ∈ b0 :: l, checkB b.1 b.2 = 0
 ·refine .inr ⟨hc, ?_⟩
  by_cases hn : ∀ b ∈ b0 :: l, b.1 = b0.1
  ·refine .inr ⟨hn, ?_⟩
   rw [mergeY_go hc hn]
   have hG : ∀ x ∈ (b0 :: l).map (fun b => b.2), Nice x := fun x hx => by
    obtain ⟨b, hb, rfl⟩ := List.mem_map.1 hx
    exact (GoodB.of (hc b hb)).nice
   exact mergeG_cases (GoodB.of (hc b0 (by simp))).ten _ hG
  ·rw [Classical.not_forall] at hn
   obtain ⟨b, hn⟩ := hn
   rw [Classical.not_imp] at hn
   exact .inl ⟨⟨b, hn.1, hn.2⟩, mergeY_18 hc hn.1 hn.2⟩
 ·rw [Classical.not_forall] at hc
  obtain ⟨b, hc⟩ := hc
  rw [Classical.not_imp] at hc
  exact .inl ⟨⟨b, hc.1, hc.2⟩, mergeY_19 hc.1 hc.2⟩
theorem ten_of {b : ByteArray × List FamY} (h : checkB b.1 b.2 = 0) : tenB b.1 = true := (GoodB.of h).ten
theorem goodB_of {t : ByteArray} {N : List FamY} (ht : tenB t = true) (hr : Ris cmpNm N) (hn : Nice N) (h : N.length ≤ 30 ∧ ptsN N ≤ 120) : GoodB t N :=
 GoodB.of (by rw [nice_check ht hr hn.good, if_pos h])
theorem merge_two {A B : ByteArray × List FamY} {t : ByteArray} {y : List FamY} (h : mergeY [A, B] = (0, t, y)) :
  checkB A.1 A.2 = 0 ∧ checkB B.1 B.2 = 0 ∧ B.1 = A.1 ∧ t = A.1 ∧ GoodB t y ∧ ∀ nm, joinA none nm [A.2, B.2] = some (look y nm) := by
 rcases merge_cases A [B] with ⟨_, e⟩ | ⟨hc, ⟨_, e⟩ | ⟨hn, ⟨_, e⟩ | ⟨N, hr, hN, ho, e⟩⟩⟩
 ·rw [h] at e; cases e
 ·rw [h] at e; cases e
 ·rw [h] at e; cases e
 ·by_cases hz : N.length ≤ 30 ∧ ptsN N ≤ 120
  ·rw [h, if_pos hz] at e
   injection e with _ e
   injection e with e1 e2
   subst e1 e2
   exact ⟨hc A (by simp), hc B (by simp), hn B (by simp), rfl, goodB_of (ten_of (hc A (by simp))) hr hN hz, ho⟩
  ·rw [h, if_neg hz] at e; cases e
theorem mem2 {α : Type} {P : α → Prop} {x y : α} (hx : P x) (hy : P y) : ∀ z ∈ [x, y], P z := fun z hz => by
 simp only [List.mem_cons, List.not_mem_nil, or_false] at hz
 rcases hz with rfl | rfl <;> assumption
theorem mem3 {α : Type} {P : α → Prop} {x y u : α} (hx : P x) (hy : P y) (hu : P u) : ∀ z ∈ [x, y, u], P z := fun z hz => by
 simp only [List.mem_cons, List.not_mem_nil, or_false] at hz
 rcases hz with rfl | rfl | rfl <;> assumption
theorem nice_of {b : ByteArray × List FamY} (h : checkB b.1 b.2 = 0) : Nice b.2 := (GoodB.of h).nice
theorem parts_left {A B C : ByteArray × List FamY} {t : ByteArray} {y : List FamY} (h : mergeY [A, B] = (0, t, y)) : mergeY [(t, y), C] = mergeY [A, B, C] := by
 obtain ⟨cA, cB, hBA, rfl, hy, ho⟩ := merge_two h
 have cy : checkB A.1 y = 0 := by rw [hy.check, if_pos hy.ten]
 by_cases cC : checkB C.1 C.2 = 0
 ·by_cases hCA : C.1 = A.1
  ·rw [mergeY_go (b0 := (A.1, y)) (l := [C]) (mem2 cy cC) (mem2 rfl hCA), mergeY_go (b0 := A) (l := [B, C]) (mem3 cA cB cC) (mem3 rfl hBA hCA)]
   refine mergeG_congr (Ls := [y, C.2]) (Ks := [A.2, B.2, C.2]) hy.ten (mem2 hy.nice (nice_of cC)) (mem3 (nice_of cA) (nice_of cB) (nice_of cC)) (fun nm => ?_)
   have e := joinA_append nm [C.2] [A.2, B.2] none
   rw [ho nm, Option.bind_some] at e
   exact e.symm
  ·rw [mergeY_18 (b0 := (A.1, y)) (l := [C]) (mem2 cy cC) (b := C) (by simp) hCA, mergeY_18 (b0 := A) (l := [B, C]) (mem3 cA cB cC) (b := C) (by simp) hCA]
 ·rw [mergeY_19 (b := C) (by simp) cC, mergeY_19 (b := C) (by simp) cC]
theorem join_right {nm : ByteArray} {a b c : List FamY} (ha : Nice a) (hb : Nice b) (hc : Nice c) : joinA none nm [a, b, c] = (joinA none nm [b, c]).bind fun v => opF (look a nm) v := by
 show ((opF (look a nm) (look b nm)).bind fun u => (opF u (look c nm)).bind fun v => some v) = ((opF (look b nm) (look c nm)).bind fun v => some v).bind fun v => opF (look a nm) v
 have e := opF_assoc (ha.ok nm) (hb.ok nm) (hc.ok nm)
 have s : ∀ o : Option (Option FamY), (o.bind fun v => some v) = o := fun o => by cases o <;> rfl
 rw [s]
 rw [← e]
 congr 1
 funext u
 exact s _
theorem parts_right {A B C : ByteArray × List FamY} {t : ByteArray} {y : List FamY} (h : mergeY [B, C] = (0, t, y)) : mergeY [A, (t, y)] = mergeY [A, B, C] := by
 obtain ⟨cB, cC, hCB, rfl, hy, ho⟩ := merge_two h
 have cy : checkB B.1 y = 0 := by rw [hy.check, if_pos hy.ten]
 by_cases cA : checkB A.1 A.2 = 0
 ·by_cases hBA : B.1 = A.1
  ·rw [mergeY_go (b0 := A) (l := [(B.1, y)]) (mem2 cA cy) (mem2 rfl hBA), mergeY_go (b0 := A) (l := [B, C]) (mem3 cA cB cC) (mem3 rfl hBA (hCB.trans hBA))]
   refine mergeG_congr (Ls := [A.2, y]) (Ks := [A.2, B.2, C.2]) (ten_of cA) (mem2 (nice_of cA) hy.nice) (mem3 (nice_of cA) (nice_of cB) (nice_of cC)) (fun nm => ?_)
   rw [join_right (nice_of cA) (nice_of cB) (nice_of cC), ho nm, Option.bind_some]
   show ((opF (look A.2 nm) (look y nm)).bind fun v => some v) = _
   cases opF (look A.2 nm) (look y nm) <;> rfl
  ·rw [mergeY_18 (b0 := A) (l := [(B.1, y)]) (mem2 cA cy) (b := (B.1, y)) (by simp) hBA, mergeY_18 (b0 := A) (l := [B, C]) (mem3 cA cB cC) (b := B) (by simp) hBA]
 ·rw [mergeY_19 (b := A) (by simp) cA, mergeY_19 (b := A) (by simp) cA]
theorem looks_mono {N M : List FamY} (hN : Dst N) (h : ∀ nm f, look N nm = some f → ∃ g, look M nm = some g ∧ f.ps.length ≤ g.ps.length) : N.length ≤ M.length ∧ ptsN N ≤ ptsN M := by
 rw [ptsN_sum, ptsN_sum]
 refine pig (fun p q => p.nm = q.nm) _ _ N M (List.Pairwise.imp (fun {x y} hxy q h1 h2 => hxy (h1.trans h2.symm)) hN) (fun p hp => ?_)
 obtain ⟨g, h1, h2⟩ := h p.nm p (look_of hN hp)
 exact ⟨g, (look_mem h1).1, (look_mem h1).2.symm, h2⟩
theorem not_left {A B C : ByteArray × List FamY} (h : (mergeY [A, B]).1 ≠ 0) : (mergeY [A, B, C]).1 ≠ 0 := by
 rcases merge_cases A [B, C] with ⟨_, e⟩ | ⟨hc, ⟨_, e⟩ | ⟨hn, ⟨_, e⟩ | ⟨N, hr, hN, ho, e⟩⟩⟩
 ·rw [e]; decide
 ·rw [e]; decide
 ·rw [e]; decide
 ·by_cases hz : N.length ≤ 30 ∧ ptsN N ≤ 120
  ·exfalso
   have ej := fun nm => joinA_append nm [C.2] [A.2, B.2] none
   rcases merge_cases A [B] with ⟨⟨b, hb, hk⟩, _⟩ | ⟨hc2, ⟨⟨b, hb, hk⟩, _⟩ | ⟨hn2, ⟨⟨nm, hk⟩, _⟩ | ⟨N2, hr2, hN2, ho2, e2⟩⟩⟩
   ·exact hk (hc b (by simp only [List.mem_cons, List.not_mem_nil, or_false] at hb ⊢; rcases hb with rfl | rfl <;> simp))
   ·exact hk (hn b (by simp only [List.mem_cons, List.not_mem_nil, or_false] at hb ⊢; rcases hb with rfl | rfl <;> simp))
   ·have := (ej nm).symm.trans (ho nm)
    rw [show joinA none nm [A.2, B.2] = none from hk] at this
    cases this
   ·have hm := looks_mono hN2.dst (M := N) (fun nm f hf => by
     have := (ej nm).symm.trans (ho nm)
     rw [show joinA none nm [A.2, B.2] = _ from ho2 nm, Option.bind_some] at this
     have h3 : opF (look N2 nm) (look C.2 nm) = some (look N nm) := by
      rw [← this]
      show _ = (opF (look N2 nm) (look C.2 nm)).bind fun v => some v
      cases opF (look N2 nm) (look C.2 nm) <;> rfl
     exact (opF_len (hN2.ok nm) ((nice_of (hc C (by simp))).ok nm) h3).1 f hf)
    rw [e2, if_pos ⟨by omega, by omega⟩] at h
    exact h rfl
  ·rw [e, if_neg hz]; decide
theorem not_right {A B C : ByteArray × List FamY} (h : (mergeY [B, C]).1 ≠ 0) : (mergeY [A, B, C]).1 ≠ 0 := by
 rcases merge_cases A [B, C] with ⟨_, e⟩ | ⟨hc, ⟨_, e⟩ | ⟨hn, ⟨_, e⟩ | ⟨N, hr, hN, ho, e⟩⟩⟩
 ·rw [e]; decide
 ·rw [e]; decide
 ·rw [e]; decide
 ·by_cases hz : N.length ≤ 30 ∧ ptsN N ≤ 120
  ·exfalso
   have nA := nice_of (hc A (by simp))
   have ej := fun nm => join_right (nm := nm) nA (nice_of (hc B (by simp))) (nice_of (hc C (by simp)))
   rcases merge_cases B [C] with ⟨⟨b, hb, hk⟩, _⟩ | ⟨hc2, ⟨⟨b, hb, hk⟩, _⟩ | ⟨hn2, ⟨⟨nm, hk⟩, _⟩ | ⟨N2, hr2, hN2, ho2, e2⟩⟩⟩
   ·exact hk (hc b (by simp only [List.mem_cons, List.not_mem_nil, or_false] at hb ⊢; rcases hb with rfl | rfl <;> simp))
   ·have h1 := hn B (by simp)
    have h2 := hn C (by simp)
    simp only [List.mem_cons, List.not_mem_nil, or_false] at hb
    rcases hb with rfl | rfl
    ·exact hk rfl
    ·exact hk (h2.trans h1.symm)
   ·have := (ej nm).symm.trans (ho nm)
    rw [show joinA none nm [B.2, C.2] = none from hk] at this
    cases this
   ·have hm := looks_mono hN2.dst (M := N) (fun nm f hf => by
     have := (ej nm).symm.trans (ho nm)
     rw [show joinA none nm [B.2, C.2] = _ from ho2 nm, Option.bind_some] at this
     exact (opF_len (nA.ok nm) (hN2.ok nm) this).2 f hf)
    rw [e2, if_pos ⟨by omega, by omega⟩] at h
    exact h rfl
  ·rw [e, if_neg hz]; decide
theorem opF_self {nm : ByteArray} {u : Option FamY} (h : OkO nm u) : opF u u = some u := by
 cases u with
 | none => rfl
 | some f =>
   rw [opF_two, putY_self (h f rfl).1]
   rfl
theorem ptsN_filter (p : FamY → Bool) : ∀ L : List FamY, ptsN (L.filter p) ≤ ptsN L
 | [] => Nat.le_refl _
 | f :: L => by
   have := ptsN_filter p L
   rw [List.filter_cons]
   split
   ·rw [ptsN, ptsN]; omega
   ·rw [ptsN]; omega
theorem GoodB.filter {t : ByteArray} {L : List FamY} (h : GoodB t L) (p : FamY → Bool) : GoodB t (L.filter p) :=
 goodB_of h.ten (List.Pairwise.filter p h.risN) ⟨List.Pairwise.filter p h.names, fun f hf => h.good f (List.mem_filter.1 hf).1⟩ ⟨Nat.le_trans (List.length_filter_le _ _) h.len, Nat.le_trans (ptsN_filter p L) h.pts⟩
theorem GoodB.empty {t : ByteArray} (h : tenB t = true) : GoodB t [] := goodB_of h List.Pairwise.nil Nice.nil ⟨by simp, by simp [ptsN]⟩
theorem GoodB.zero {t : ByteArray} {L : List FamY} (h : GoodB t L) : checkB t L = 0 := by rw [h.check, if_pos h.ten]
theorem self_one {t : ByteArray} {L : List FamY} (h : GoodB t L) : mergeY [(t, L)] = (0, t, L) := by
 have hc := h.zero
 rw [mergeY_go (b0 := (t, L)) (l := []) (fun b hb => by rw [List.mem_singleton] at hb; subst hb; exact hc) (fun b hb => by rw [List.mem_singleton] at hb; subst hb; rfl)]
 exact mergeG_eq (Ls := [L]) h.ten (fun x hx => by rw [List.mem_singleton] at hx; subst hx; exact h.nice) h (fun nm => rfl)
theorem self_part {t : ByteArray} {L K : List FamY} (h : GoodB t L) (k : GoodB t K) (hs : ∀ f ∈ K, f ∈ L) : mergeY [(t, L), (t, K)] = (0, t, L) ∧ mergeY [(t, K), (t, L)] = (0, t, L) := by
 have hl : ∀ nm, look K nm = none ∨ look K nm = look L nm := fun nm => by
  cases e : look K nm with
  | none => exact .inl rfl
  | some f => exact .inr ((look_iff h.names).2 ⟨hs f (look_mem e).1, (look_mem e).2⟩).symm
 constructor
 ·rw [mergeY_go (b0 := (t, L)) (l := [(t, K)]) (mem2 h.zero k.zero) (mem2 rfl rfl)]
  refine mergeG_eq (Ls := [L, K]) h.ten (mem2 h.nice k.nice) h (fun nm => ?_)
  show ((opF (look L nm) (look K nm)).bind fun v => some v) = some (look L nm)
  rcases hl nm with e | e
  ·rw [e, opF_none]; rfl
  ·rw [e, opF_self (h.nice.ok nm)]; rfl
 ·rw [mergeY_go (b0 := (t, K)) (l := [(t, L)]) (mem2 k.zero h.zero) (mem2 rfl rfl)]
  refine mergeG_eq (Ls := [K, L]) h.ten (mem2 k.nice h.nice) h (fun nm => ?_)
  show ((opF (look K nm) (look L nm)).bind fun v => some v) = some (look L nm)
  rcases hl nm with e | e
  ·rw [e]; rfl
  ·rw [e, opF_self (h.nice.ok nm)]; rfl
end Go.Proofs.YtjjnmefihdjglaaGreat
