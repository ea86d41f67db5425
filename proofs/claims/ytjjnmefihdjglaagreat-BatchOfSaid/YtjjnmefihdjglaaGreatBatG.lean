import Derived.Test.YtjjnmefihdjglaaGreatBatK
import Derived.Test.YtjjnmefihdjglaaGreatWd
import Derived.Test.YtjjnmefihdjglaaGreatRcB
namespace Go.Proofs.YtjjnmefihdjglaaGreat
open Go.RowKit
theorem goodF_ris {f : FamY} (h : goodF f = true) : Ris cmpY f.ps := by
 unfold goodF goodFamY at h
 simp only [Bool.and_eq_true] at h
 have h2 := h.2.2
 rw [risesK_iff, ris_map] at h2
 exact h2
structure GoodB (tn : ByteArray) (L : List FamY) : Prop where
 ten : tenB tn = true
 all : L.all goodF = true
 ris : risesN (L.map FamY.nm) = true
 len : L.length ≤ 30
 pts : ptsN L ≤ 120
theorem GoodB.of {tn : ByteArray} {L : List FamY} (h : checkB tn L = 0) : GoodB tn L := by
 unfold checkB at h
 by_cases h1 : tenB tn = true ∧ L.all goodF = true ∧ risesN (L.map FamY.nm) = true
 ·rw [if_pos h1] at h
  by_cases h2 : L.length ≤ 30 ∧ ptsN L ≤ 120
  ·exact ⟨h1.1, h1.2.1, h1.2.2, h2.1, h2.2⟩
  ·rw [if_neg h2] at h; cases h
 ·rw [if_neg h1] at h; cases h
theorem GoodB.check {tn : ByteArray} {L : List FamY} (h : GoodB tn L) (t : ByteArray) : checkB t L = if tenB t = true then 0 else 19 := by
 unfold checkB
 by_cases ht : tenB t = true
 ·rw [if_pos ⟨ht, h.all, h.ris⟩, if_pos ⟨h.len, h.pts⟩, if_pos ht]
 ·rw [if_neg (fun e => ht e.1), if_neg ht]
theorem GoodB.good {tn : ByteArray} {L : List FamY} (h : GoodB tn L) : ∀ f ∈ L, goodF f = true := List.all_eq_true.1 h.all
theorem GoodB.risN {tn : ByteArray} {L : List FamY} (h : GoodB tn L) : Ris cmpNm L := by
 have := (risesN_iff _).1 h.ris
 unfold Ris at this ⊢
 rw [List.pairwise_map] at this
 exact this
theorem GoodB.srts {tn : ByteArray} {L M : List FamY} (h : GoodB tn L) (p : ∀ f ∈ M, f ∈ L) : Go.Proofs.YtjjnmefihdjglaaGreat.srts M = some M := srts_self (fun f hf => goodF_ris (h.good f (p f hf)))
theorem GoodB.sort {tn : ByteArray} {L M : List FamY} (h : GoodB tn L) (p : M.Perm L) : sortB M = some L := by
 unfold sortB
 rw [h.srts (fun f hf => p.subset hf), Option.bind_some]
 exact sortN_some p.symm h.risN
theorem ptsN_perm {L M : List FamY} (p : L.Perm M) : ptsN L = ptsN M := by
 induction p with
 | nil => rfl
 | cons x _ ih => rw [ptsN, ptsN, ih]
 | swap x y l => rw [ptsN, ptsN, ptsN, ptsN]; omega
 | trans _ _ h1 h2 => exact h1.trans h2
end Go.Proofs.YtjjnmefihdjglaaGreat
