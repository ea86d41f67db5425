/- append of a row of structs onto nil, onto a row of the call's own: as lists. -/
import Derived.Test.YtjjnmefihdjglaaSrN
namespace Go.Proofs.Ytjjnmefihdjglaa
open Go.RowKit
section
variable {E : Type} {K : Nat} {T : TypeId} {cs : E → List Value}
theorem app_nil {SL : TypeId} {B : Nat} (hT : TyE SL T K B) (hK : ∀ x, (cs x).length = K) (h1 : ∀ x, ∀ u ∈ cs x, u.oneCell' = true) (hK0 : 0 < K) (w : World) (ty : TypeId) (z : E)
    (ad : Addr) (l : List E) (m c : Nat) (hn : ∀ i, i < l.length → ∀ j, j < K → w.cell? (ad.add (i * K + j)) = (cs (l[i]?.getD z))[j]?) (hm : m = l.length) (h0 : 0 < m)
    (hb : m * B ≤ 140737488355328) (hl : m ≤ 9223372036854775807) :
    ∃ v' w', (Builtin.append_ #[SL, SL] ty #[.slice none 0 0, .slice (some ad) m c]).run Try.prog w = .ok v' w' ∧ OwnR K T cs w.heap.size v' m (fun i => l[i]?.getD z) w' ∧ Ext w w' := by
  subst hm
  obtain ⟨v', w', r1, r2, r3, _⟩ := append_structs hT hK h1 hK0 w ty w.heap.size (.slice none 0 0) 0 (fun _ => z) (OwnR.nil _ _ _) (Nat.le_refl _) ad l.length c (fun i => l[i]?.getD z) hn (by rw [Nat.zero_add]; exact hb) (by rw [Nat.zero_add]; exact hl) (.inr h0)
  rw [Nat.zero_add] at r2
  exact ⟨v', w', r1, r2, grown_ext' (Ext.refl w) r3 (Nat.le_refl _) (fun g hg => by cases hg)⟩
theorem app_row {SL : TypeId} {B : Nat} (hT : TyE SL T K B) (hK : ∀ x, (cs x).length = K) (h1 : ∀ x, ∀ u ∈ cs x, u.oneCell' = true) (hK0 : 0 < K) (w : World) (ty : TypeId) (z : E)
    (base n : Nat) (v : Value) (L : List E) (hv : OwnR K T cs base v n (fun i => L[i]?.getD z) w) (hnL : n = L.length) (hn0 : 0 < n) (hbase : base ≤ w.heap.size)
    (ad : Addr) (l : List E) (m c : Nat) (hn : ∀ i, i < l.length → ∀ j, j < K → w.cell? (ad.add (i * K + j)) = (cs (l[i]?.getD z))[j]?) (hm : m = l.length)
    (hb : (n + m) * B ≤ 140737488355328) (hl : n + m ≤ 9223372036854775807) :
    ∃ v' w', (Builtin.append_ #[SL, SL] ty #[v, .slice (some ad) m c]).run Try.prog w = .ok v' w' ∧ OwnR K T cs base v' (n + m) (fun i => (L ++ l)[i]?.getD z) w' ∧ w.grownBy w' v.ownBlock ∧ (v'.ownBlock = v.ownBlock ∨ v'.ownBlock = some w.heap.size) := by
  subst hm hnL
  obtain ⟨v', w', r1, r2, r3, r4⟩ := append_structs hT hK h1 hK0 w ty base v L.length (fun i => L[i]?.getD z) hv hbase ad l.length c (fun i => l[i]?.getD z) hn hb hl (.inl (by
    rcases hv with ⟨_, h⟩ | ⟨g, cap, e, _⟩
    · omega
    · rw [e]; exact fun h => by cases h))
  refine ⟨v', w', r1, r2.congr (fun i hi => ?_), r3, r4⟩
  unfold joinF
  by_cases q : i < L.length
  · rw [if_pos q, List.getElem?_append_left q]
  · rw [if_neg q, List.getElem?_append_right (by omega)]
end
end Go.Proofs.Ytjjnmefihdjglaa
