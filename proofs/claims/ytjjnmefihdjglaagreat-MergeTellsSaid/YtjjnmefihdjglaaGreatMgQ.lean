import Derived.Test.YtjjnmefihdjglaaGreatMgP
set_option maxRecDepth 100000
set_option maxHeartbeats 64000000
set_option linter.all false
namespace Go.Proofs.YtjjnmefihdjglaaGreat
open Go.RowKit
theorem merge_cases (b0 : ByteArray × List FamY) (l : List (ByteArray × List FamY)) :
  ((∃ b ∈ b0 :: l,checkB b.1 b.2 ≠ 0) ∧ mergeY (b0 :: l) = (19,⟨#[]⟩,[])) ∨
  ((∀ b ∈ b0 :: l,checkB b.1 b.2 = 0) ∧ ((∃ b ∈ b0 :: l,b.1 ≠ b0.1) ∧ mergeY (b0 :: l) = (18,⟨#[]⟩,[]) ∨
    ((∀ b ∈ b0 :: l,b.1 = b0.1) ∧ ((∃ nm,joinA none nm ((b0 :: l).map (fun b => b.2)) = none) ∧ mergeY (b0 :: l) = (13,⟨#[]⟩,[]) ∨
      ∃ N,Ris cmpNm N ∧ Nice N ∧ (∀ nm,joinA none nm ((b0 :: l).map (fun b => b.2)) = some (look N nm)) ∧ mergeY (b0 :: l) = if N.length ≤ 30 ∧ ptsN N ≤ 120 then (0,b0.1,N) else (14,⟨#[]⟩,[]))))) := by
 by_cases hc : ∀ b ∈ b0 :: l,checkB b.1 b.2 = 0
 ·refine .inr ⟨hc,?_⟩
  by_cases hn : ∀ b ∈ b0 :: l,b.1 = b0.1
  ·refine .inr ⟨hn,?_⟩
   rw [mergeY_go hc hn]
   have hG : ∀ x ∈ (b0 :: l).map (fun b => b.2),Nice x := fun x hx => by
    obtain ⟨b,hb,rfl⟩ := List.mem_map.1 hx
    exact (GoodB.of (hc b hb)).nice
   exact mergeG_cases (GoodB.of (hc b0 (by simp))).ten _ hG
  ·rw [Classical.not_forall] at hn
   obtain ⟨b,hn⟩ := hn
   rw [Classical.not_imp] at hn
   exact .inl ⟨⟨b,hn.1,hn.2⟩,mergeY_18 hc hn.1 hn.2⟩
 ·rw [Classical.not_forall] at hc
  obtain ⟨b,hc⟩ := hc
  rw [Classical.not_imp] at hc
  exact .inl ⟨⟨b,hc.1,hc.2⟩,mergeY_19 hc.1 hc.2⟩
theorem ten_of {b : ByteArray × List FamY} (h : checkB b.1 b.2 = 0) : tenB b.1 = true := (GoodB.of h).ten
theorem goodB_of {t : ByteArray} {N : List FamY} (ht : tenB t = true) (hr : Ris cmpNm N) (hn : Nice N) (h : N.length ≤ 30 ∧ ptsN N ≤ 120) : GoodB t N :=
 GoodB.of (by rw [nice_check ht hr hn.good,if_pos h])
end Go.Proofs.YtjjnmefihdjglaaGreat
