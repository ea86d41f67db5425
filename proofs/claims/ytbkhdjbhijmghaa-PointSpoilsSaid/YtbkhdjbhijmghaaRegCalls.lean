/- A region that draws, with calls that do not wait for one another: whichever comes first, one walk. -/
import Derived.Deep.RegionHeld3
import Derived.Test.YtbkhdjbhijmghaaBase
namespace Go.Proofs.Ytbkhdjbhijmghaa
open Go.RowKit

/-- A row, another value at one place. -/
def upd {α : Type} (x : Nat → α) (k : Nat) (v : α) : Nat → α := fun n => if n = k then v else x n
theorem upd_same {α : Type} (x : Nat → α) (k : Nat) (v : α) : upd x k v k = v := if_pos rfl
theorem upd_other {α : Type} (x : Nat → α) {k j : Nat} (v : α) (h : j ≠ k) : upd x k v j = x j := if_neg h
/-- How many of the first n are not there yet. -/
def open_ (f : Nat → Bool) : Nat → Nat
  | 0 => 0
  | n + 1 => (if f n then 0 else 1) + open_ f n
theorem open_le (f : Nat → Bool) : ∀ n, open_ f n ≤ n
  | 0 => Nat.le_refl _
  | n + 1 => by
    have := open_le f n
    unfold open_
    split <;> omega
theorem open_zero (f : Nat → Bool) : ∀ n, open_ f n = 0 → ∀ k, k < n → f k = true
  | 0, _, k, hk => by omega
  | n + 1, h, k, hk => by
    unfold open_ at h
    by_cases hf : f n = true
    · by_cases e : k = n
      · subst e; exact hf
      · rw [if_pos hf] at h
        exact open_zero f n (by omega) k (by omega)
    · rw [if_neg hf] at h; omega
theorem open_upd_out (f : Nat → Bool) (k : Nat) : ∀ n, n ≤ k → open_ (upd f k true) n = open_ f n
  | 0, _ => rfl
  | n + 1, h => by
    unfold open_
    rw [upd_other f true (by omega), open_upd_out f k n (by omega)]
theorem open_upd (f : Nat → Bool) (k : Nat) (hf : f k = false) : ∀ n, k < n → open_ f n = open_ (upd f k true) n + 1
  | 0, h => by omega
  | n + 1, h => by
    by_cases e : k = n
    · subst e
      unfold open_
      rw [upd_same, hf, open_upd_out f k k (Nat.le_refl _)]
      simp; omega
    · unfold open_
      rw [upd_other f true (by omega), open_upd f k hf n (by omega)]
      omega
theorem open_pos (f : Nat → Bool) : ∀ n, 0 < open_ f n → ∃ k, k < n ∧ f k = false
  | 0, h => by simp [open_] at h
  | n + 1, h => by
    cases hf : f n with
    | false => exact ⟨n, by omega, hf⟩
    | true =>
      unfold open_ at h
      rw [hf] at h
      obtain ⟨k, hk, hk2⟩ := open_pos f n (by simpa using h)
      exact ⟨k, by omega, hk2⟩

theorem getD_set {α : Type} (l : List α) (k : Nat) (v d : α) (hk : k < l.length) : (fun j => (l.set k v).getD j d) = upd (fun j => l.getD j d) k v := by
  funext j
  unfold upd
  by_cases e : j = k
  · subst e
    rw [if_pos rfl]
    simp [List.getD, hk]
  · rw [if_neg e]
    simp [List.getD, Ne.symm e]
/-- What may come up next: calls that have not come up yet, alone. -/
def readyOk (md : Region.Mode) (ops : Array Oper) (idx : List Nat) (L : List Bool → Array Bool) (bs : List Bool) : Bool :=
  bs.all id || (!(Region.ready md ops (L bs)).isEmpty && (Region.ready md ops (L bs)).all fun i => (List.range bs.length).any fun k => !(bs.getD k true) && i == idx.getD k 0)

/-- Calls that do not wait for one another, each with one answer whatever the others have done (J is all that is known of the world): one walk for all their orders. -/
theorem wpAnyH_calls {P : Program} {md : Region.Mode} {ops : Array Oper} {Q : Exit → Act → World → Prop} {S : World → Prop}
    (n m : Nat) (idx : List Nat) (val : List Value) (A : List Value → Act) (L : List Bool → Array Bool) (J : World → Prop) (hS : ∀ w, J w → S w)
    (hready : ∀ bs : List Bool, bs.length = n → readyOk md ops idx L bs = true)
    (hset : ∀ (bs : List Bool) k, bs.length = n → k < n → (L bs).setIfInBounds (idx.getD k 0) true = L (bs.set k true))
    (hcall : ∀ (x : List Value) k, x.length = n → k < n → ∀ (K : Act → World → Prop) w, J w → (∀ w', J w' → K (A (x.set k (val.getD k undef))) w') → wpOp P ops Q (idx.getD k 0) K (A x) w)
    (hdone : ∀ (bs : List Bool) (x : List Value) w, bs.length = n → x.length = n → J w → (∀ k, k < n → bs.getD k true = true ∧ x.getD k undef = val.getD k undef) → wpAnyH P md ops Q S m (L bs) (A x) w) :
    ∀ (c : Nat) (bs : List Bool) (x : List Value) (w : World), bs.length = n → x.length = n → open_ (fun k => bs.getD k true) n = c → J w → (∀ k, k < n → bs.getD k true = true → x.getD k undef = val.getD k undef) → wpAnyH P md ops Q S (c + m) (L bs) (A x) w
  | 0, bs, x, w, hb, hl, hc, hJ, hx => by
    have hall := open_zero (fun k => bs.getD k true) n hc
    rw [Nat.zero_add]
    exact hdone bs x w hb hl hJ (fun k hk => ⟨hall k hk, hx k hk (hall k hk)⟩)
  | c + 1, bs, x, w, hb, hl, hc, hJ, hx => by
    have hr := hready bs hb
    unfold readyOk at hr
    obtain ⟨k0, hk0, hf0⟩ := open_pos (fun k => bs.getD k true) n (by omega)
    have hna : bs.all id = false := by
      cases hh : bs.all id with
      | false => rfl
      | true =>
        exfalso
        have h0 : k0 < bs.length := by omega
        have := List.all_eq_true.1 hh bs[k0] (List.getElem_mem h0)
        simp [List.getD, h0] at hf0
        simp [hf0] at this
    rw [hna, Bool.false_or, Bool.and_eq_true] at hr
    obtain ⟨hne, hal⟩ := hr
    rw [show c + 1 + m = (c + m) + 1 from by omega]
    refine ⟨fun h0 => by rw [h0] at hne; simp at hne, fun i hi => ?_⟩
    have hi2 := List.all_eq_true.1 hal i hi
    obtain ⟨k, hk, hk2⟩ := List.any_eq_true.1 hi2
    have hk3 : k < n := by have := List.mem_range.1 hk; omega
    rw [Bool.and_eq_true] at hk2
    obtain ⟨hf, hik⟩ := hk2
    have hf' : bs.getD k true = false := by simpa using hf
    have hik' : i = idx.getD k 0 := by simpa using hik
    subst hik'
    refine hcall x k hl hk3 _ w hJ (fun w' hJ' => ⟨hS w' hJ', ?_⟩)
    rw [hset bs k hb hk3]
    have ho := open_upd (fun j => bs.getD j true) k hf' n hk3
    have hg := getD_set bs k true true (by omega)
    have hg2 := getD_set x k (val.getD k undef) undef (by omega)
    refine wpAnyH_calls n m idx val A L J hS hready hset hcall hdone c (bs.set k true) (x.set k (val.getD k undef)) w' (by simpa using hb) (by simpa using hl) (by rw [hg]; omega) hJ' (fun j hj hfj => ?_)
    have e1 : (bs.set k true).getD j true = upd (fun j => bs.getD j true) k true j := congrFun hg j
    have e2 : (x.set k (val.getD k undef)).getD j undef = upd (fun j => x.getD j undef) k (val.getD k undef) j := congrFun hg2 j
    rw [e2]
    rw [e1] at hfj
    by_cases e : j = k
    · subst e; exact upd_same _ _ _
    · rw [upd_other _ _ e]
      rw [upd_other _ _ e] at hfj
      exact hx j hj hfj
/-- The same, where all of them are still to come. -/
theorem wpAnyH_calls_at {P : Program} {md : Region.Mode} {ops : Array Oper} {Q : Exit → Act → World → Prop} {S : World → Prop} {fuel : Nat} {listed : Array Bool} {a : Act} {w : World}
    (n m : Nat) (idx : List Nat) (val : List Value) (A : List Value → Act) (L : List Bool → Array Bool) (J : World → Prop)
    (hl : listed = L (List.replicate n false)) (ha : a = A (List.replicate n undef)) (hf : fuel = n + m) (hS : ∀ w, J w → S w)
    (hready : ∀ bs : List Bool, bs.length = n → readyOk md ops idx L bs = true)
    (hset : ∀ (bs : List Bool) k, bs.length = n → k < n → (L bs).setIfInBounds (idx.getD k 0) true = L (bs.set k true))
    (hcall : ∀ (x : List Value) k, x.length = n → k < n → ∀ (K : Act → World → Prop) w, J w → (∀ w', J w' → K (A (x.set k (val.getD k undef))) w') → wpOp P ops Q (idx.getD k 0) K (A x) w)
    (hdone : ∀ (bs : List Bool) (x : List Value) w, bs.length = n → x.length = n → J w → (∀ k, k < n → bs.getD k true = true ∧ x.getD k undef = val.getD k undef) → wpAnyH P md ops Q S m (L bs) (A x) w)
    (hJ : J w) : wpAnyH P md ops Q S fuel listed a w := by
  subst hl ha hf
  have ho : ∀ k, k ≤ n → open_ (fun j => (List.replicate n false).getD j true) k = k := by
    intro k
    induction k with
    | zero => intro _; rfl
    | succ k ih =>
      intro hk
      unfold open_
      rw [ih (by omega)]
      have : (List.replicate n false).getD k true = false := by simp [List.getD, show k < n from by omega]
      rw [this]
      simp; omega
  exact wpAnyH_calls n m idx val A L J hS hready hset hcall hdone n _ _ w (by simp) (by simp) (ho n (Nat.le_refl _)) hJ (fun k hk h => by
    have : (List.replicate n false).getD k true = false := by simp [List.getD, hk]
    rw [this] at h
    cases h)
end Go.Proofs.Ytbkhdjbhijmghaa
