import Derived.Deep.RegionHeld3
import Derived.Test.YtjjnmefihdjglaaGreatGA
namespace Go.Proofs.YtjjnmefihdjglaaGreat
open Go.RowKit
section
variable {P : Program} {ops : Array Oper} {Q : Exit → Act → World → Prop} {md : Region.Mode} {S : World → Prop}
def Tells (P : Program) (ops : Array Oper) (S : World → Prop) (o : Oper) (v : Value) (a : Act) : Prop :=
 Region.wanted o (yielded ops a.tmps) = true ∧ ∃ f args, (∀ w, S w → (execOp a.eval o).run P w = .ok (.enter f args) w) ∧ ∀ w, S w → Calls P f args w fun e w' => e = .returned v ∧ w' = w
theorem Tells.same {o : Oper} {v : Value} {a b : Act} (h : Tells P ops S o v a) (he : execOp b.eval o = execOp a.eval o) (hw : Region.wanted o (yielded ops b.tmps) = Region.wanted o (yielded ops a.tmps)) : Tells P ops S o v b := by
 unfold Tells
 rw [he, hw]
 exact h
theorem Tells.run {i : Nat} {o : Oper} {v : Value} {a : Act} {K : Act → World → Prop} {w : World} (hi : ops[i]? = some o) (h : Tells P ops S o v a) (hS : S w) (hK : K (a.put o.dst v) w) : wpOp P ops Q i K a w := by
 obtain ⟨h1, f, args, h2, h3⟩ := h
 unfold Go.wpOp
 simp only [hi, h1, if_true]
 refine .inl ?_
 unfold Oper.wp
 rw [h2 w hS]
 simp only [Oper.upon]
 refine (h3 w hS).mono fun e w' he => ?_
 obtain ⟨rfl, rfl⟩ := he
 exact hK
theorem Tells.put {o p : Oper} {v : Value} {a : Act} (h : Tells P ops S o v a) (hs : ∀ cs b, o.op ≠ .select cs b) (hp : o.apart ops p = true) (u : Value) : Tells P ops S o v (a.put p.dst u) :=
 h.same (execOp_put o hs a p.dst u (Oper.apart_spec hp).2.2) (wanted_put o a p.dst u (Oper.apart_spec hp).2.2)
theorem Tells.over {j : Nat} {o p : Oper} {v : Value} {K : Act → World → Prop} {a : Act} {w : World} (hj : ops[j]? = some p) (hp : o.apart ops p = true) (hs : ∀ cs b, o.op ≠ .select cs b) (hs2 : ∀ cs b, p.op ≠ .select cs b)
  (hQ : ∀ c a w, Q (.panic c) (a.put o.dst v) w → Q (.panic c) a w) (hy : Tells P ops S o v a) (h : wpOp P ops Q j K (a.put o.dst v) w) : wpOp P ops Q j (fun b w' => Tells P ops S o v b ∧ K (b.put o.dst v) w') a w := by
 obtain ⟨a1, a2, a3⟩ := Oper.apart_spec hp
 have hop : execOp (a.put o.dst v).eval p = execOp a.eval p := execOp_put p hs2 a o.dst v a1
 unfold Go.wpOp at h ⊢
 simp only [hj] at h ⊢
 rw [wanted_put p a o.dst v a1] at h
 by_cases hw : Region.wanted p (yielded ops a.tmps) = true
 ·simp only [hw, if_true] at h ⊢
  rcases h with h | ⟨q1, q2⟩
  ·refine .inl ?_
   unfold Oper.wp at h ⊢
   rw [hop] at h
   cases hr : (execOp a.eval p).run P w with
   | ok nx w1 =>
     rw [hr] at h
     cases nx <;> simp only [Oper.upon] at h ⊢
     case value u => exact ⟨hy.put hs hp u, by rw [← Act.put_comm a v u a2]; exact h⟩
     case skip => exact ⟨hy.put hs hp undef, by rw [← Act.put_comm a v undef a2]; exact h⟩
     case defer d =>
      have hd : Tells P ops S o v { a with defers := d :: a.defers } := hy.same rfl rfl
      exact ⟨hd.put hs hp undef, by rw [← Act.put_comm _ v undef a2, ← Act.put_defers]; exact h⟩
     case enter f args =>
      refine Calls.mono h fun e w2 he => ?_
      cases e with
      | returned u => exact ⟨hy.put hs hp u, by rw [← Act.put_comm a v u a2]; exact he⟩
      | panicked c => exact hQ _ _ _ he
      | outgrown => exact he
     case row r args => exact Rows.mono h fun u w2 he => ⟨hy.put hs hp u, by rw [← Act.put_comm a v u a2]; exact he⟩
   | halt x w1 =>
     rw [hr] at h
     cases x <;> simp only [Oper.upon] at h ⊢
     case panic u => exact hQ _ _ _ h
  ·refine .inr ⟨?_, q2⟩
   unfold Oper.asks at q1 ⊢
   rw [hop] at q1
   exact q1
 ·simp only [hw] at h ⊢
  exact ⟨hy.put hs hp undef, by rw [← Act.put_comm a v undef a2]; exact h⟩
theorem tells_first {i : Nat} {o : Oper} {v : Value} (hi : ops[i]? = some o) (hsel : ∀ (j : Nat) (p : Oper) cs b, ops[j]? = some p → p.op ≠ .select cs b) (hQ : ∀ c a w, Q (.panic c) (a.put o.dst v) w → Q (.panic c) a w) :
  ∀ (fuel : Nat) (listed : Array Bool) (a : Act) (w : World),
   (∀ j p, ops[j]? = some p → j ≠ i → listed.getD j true = false → (∀ e ∈ p.after, Region.binds md e = true → e.on ≠ i) → o.apart ops p = true) →
   i ∈ Region.ready md ops listed → Tells P ops S o v a → S w → wpAnyH P md ops Q S fuel (listed.setIfInBounds i true) (a.put o.dst v) w → wpAnyH P md ops Q S (fuel + 1) listed a w := by
 intro fuel
 induction fuel with
 | zero =>
   intro listed a w _ hr hy hS H
   refine ⟨fun h => (by rw [h] at hr; cases hr), fun j hj => ?_⟩
   by_cases e : j = i
   ·subst e
    exact hy.run hi hS ⟨hS, H⟩
   ·have := ready_mono hj e
    rw [H.1] at this
    cases this
 | succ fuel ih =>
   intro listed a w hap hr hy hS H
   refine ⟨fun h => (by rw [h] at hr; cases hr), fun j hj => ?_⟩
   by_cases e : j = i
   ·subst e
    exact hy.run hi hS ⟨hS, H⟩
   ·obtain ⟨hun, p, hp, hall⟩ := mem_ready.1 hj
    have hno : ∀ x ∈ p.after, Region.binds md x = true → x.on ≠ i := by
     intro x hx hb he
     have l1 := hall x hx hb
     have l0 := (mem_ready.1 hr).1
     rw [he] at l1
     by_cases q : i < listed.size
     ·simp [q] at l0 l1; rw [l0] at l1; cases l1
     ·simp [Array.getElem?_eq_none (Nat.le_of_not_lt q)] at l1
    have key := hy.over hp (hap j p hp e hun hno) (fun cs b => hsel i o cs b hi) (fun cs b => hsel j p cs b hp) hQ (H.2 j (ready_mono hj e))
    refine wpOp_mono (fun b w1 hb => ⟨hb.2.1, ih (listed.setIfInBounds j true) b w1 ?_ (ready_mono hr (Ne.symm e)) hb.1 hb.2.1 ?_⟩) key
    ·intro k q hq hk hl hn
     by_cases ejk : j = k
     ·subst ejk; exact hap j q hq hk hun hn
     ·rw [getD_set_ne true ejk] at hl
      exact hap k q hq hk hl hn
    ·rw [Array.setIfInBounds_comm _ _ e]
     exact hb.2.2
theorem wpAnyH_tells {i : Nat} {o : Oper} {v : Value} {fuel : Nat} {listed : Array Bool} {a : Act} {w : World} (hi : ops[i]? = some o)
  (hs : Region.noSelect ops = true) (hf : Region.free md ops listed i = true) (hr : (Region.ready md ops listed).contains i = true)
  (hQ : ∀ c a w, Q (.panic c) (a.put o.dst v) w → Q (.panic c) a w) (hy : Tells P ops S o v a) (hS : S w)
  (h : wpAnyH P md ops Q S fuel (listed.setIfInBounds i true) (a.put o.dst v) w) : wpAnyH P md ops Q S (fuel + 1) listed a w :=
 tells_first hi (Region.noSelect_spec hs) hQ fuel listed a w (Region.free_spec hi hf) (by simpa using hr) hy hS h
end
end Go.Proofs.YtjjnmefihdjglaaGreat
