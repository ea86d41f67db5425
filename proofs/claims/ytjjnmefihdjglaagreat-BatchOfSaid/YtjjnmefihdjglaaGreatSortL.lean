import Derived.Test.YtjjnmefihdjglaaGreatGA
namespace Go.Proofs.YtjjnmefihdjglaaGreat
def swF {α : Type} (d : Nat → α) (i j : Nat) : Nat → α := fun x => if x = i then d j else if x = j then d i else d x
inductive Sw {α : Type} (a b : Nat) (d : Nat → α) : (Nat → α) → Prop
 | refl : Sw a b d d
 | swap {d' : Nat → α} (i j : Nat) : Sw a b d d' → a ≤ i → i < b → a ≤ j → j < b → Sw a b d (swF d' i j)
section
variable {α : Type}
theorem Sw.trans {a b : Nat} {d e f : Nat → α} (h : Sw a b d e) (k : Sw a b e f) : Sw a b d f := by
 induction k with
 | refl => exact h
 | swap i j _ h1 h2 h3 h4 ih => exact ih.swap i j h1 h2 h3 h4
theorem Sw.mono {a b a' b' : Nat} {d e : Nat → α} (h : Sw a b d e) (ha : a' ≤ a) (hb : b ≤ b') : Sw a' b' d e := by
 induction h with
 | refl => exact .refl
 | swap i j _ h1 h2 h3 h4 ih => exact ih.swap i j (by omega) (by omega) (by omega) (by omega)
theorem Sw.out {a b : Nat} {d e : Nat → α} (h : Sw a b d e) (x : Nat) (hx : x < a ∨ b ≤ x) : e x = d x := by
 induction h with
 | refl => rfl
 | swap i j _ h1 h2 h3 h4 ih => unfold swF; rw [if_neg (by omega), if_neg (by omega)]; exact ih
theorem Sw.src {a b : Nat} {d e : Nat → α} (h : Sw a b d e) (x : Nat) (h1 : a ≤ x) (h2 : x < b) : ∃ y, a ≤ y ∧ y < b ∧ e x = d y := by
 induction h generalizing x with
 | refl => exact ⟨x, h1, h2, rfl⟩
 | swap i j _ k1 k2 k3 k4 ih =>
   unfold swF
   split
   ·exact ih j k3 k4
   ·split
    ·exact ih i k1 k2
    ·exact ih x h1 h2
theorem swF_perm (d : Nat → α) (i j n : Nat) (hi : i < n) (hj : j < n) : ((List.range n).map (swF d i j)).Perm ((List.range n).map d) := by
 have e : swF d i j = d ∘ (fun x => if x = i then j else if x = j then i else x) := by
  funext x
  simp only [swF, Function.comp]
  split
  ·rfl
  ·split <;> rfl
 rw [e, ← List.map_map]
 refine List.Perm.map d ?_
 refine (List.perm_ext_iff_of_nodup ?_ List.nodup_range).2 ?_
 ·rw [List.nodup_iff_pairwise_ne, List.pairwise_map]
  refine List.Pairwise.imp ?_ (List.nodup_iff_pairwise_ne.1 (List.nodup_range (n := n)))
  intro x y hxy
  repeat' split
  all_goals omega
 ·intro x
  simp only [List.mem_map, List.mem_range]
  constructor
  ·rintro ⟨y, hy, rfl⟩
   repeat' split
   all_goals omega
  ·intro hx
   refine ⟨if x = i then j else if x = j then i else x, ?_, ?_⟩
   ·repeat' split
    all_goals omega
   ·repeat' split
    all_goals omega
theorem Sw.perm {a b n : Nat} {d e : Nat → α} (h : Sw a b d e) (hn : b ≤ n) : ((List.range n).map e).Perm ((List.range n).map d) := by
 induction h with
 | refl => exact List.Perm.refl _
 | swap i j _ h1 h2 h3 h4 ih => exact (swF_perm _ i j n (by omega) (by omega)).trans ih
structure Lt (lt : α → α → Bool) : Prop where
 asymm : ∀ x y, lt x y = true → lt y x = false
 ntrans : ∀ x y z, lt y x = false → lt z y = false → lt z x = false
def Sd (lt : α → α → Bool) (d : Nat → α) (a b : Nat) : Prop := ∀ i j, a ≤ i → i < j → j < b → lt (d j) (d i) = false
variable {lt : α → α → Bool}
theorem Sd.small (d : Nat → α) (a b : Nat) (h : b ≤ a + 1) : Sd lt d a b := fun i j _ _ _ => by omega
theorem Sd.congr {d e : Nat → α} {a b : Nat} (h : Sd lt d a b) (k : ∀ x, a ≤ x → x < b → e x = d x) : Sd lt e a b := fun i j h1 h2 h3 => by
 rw [k i h1 (by omega), k j (by omega) h3]
 exact h i j h1 h2 h3
theorem Sd.sub {d : Nat → α} {a b a' b' : Nat} (h : Sd lt d a b) (ha : a ≤ a') (hb : b' ≤ b) : Sd lt d a' b' := fun i j h1 h2 h3 => h i j (by omega) h2 (by omega)
def InsI (lt : α → α → Bool) (d : Nat → α) (a i j : Nat) : Prop := ∀ p q, a ≤ p → p < q → q ≤ i → q ≠ j → lt (d q) (d p) = false
theorem InsI.start {d : Nat → α} {a i : Nat} (h : Sd lt d a i) : InsI lt d a i i := fun p q h1 h2 h3 h4 => h p q h1 h2 (by omega)
theorem InsI.step (L : Lt lt) {d : Nat → α} {a i j : Nat} (h : InsI lt d a i (j + 1)) (hj : a ≤ j) (hi : j + 1 ≤ i) (hl : lt (d (j + 1)) (d j) = true) : InsI lt (swF d (j + 1) j) a i j := by
 intro p q h1 h2 h3 h4
 unfold swF
 by_cases e1 : q = j + 1
 ·subst e1
  rw [if_pos rfl]
  by_cases e2 : p = j
  ·subst e2
   rw [if_neg (by omega), if_pos rfl]
   exact L.asymm _ _ hl
  ·rw [if_neg (by omega), if_neg e2]
   exact h p j h1 (by omega) (by omega) (by omega)
 ·rw [if_neg e1, if_neg h4]
  by_cases e2 : p = j + 1
  ·subst e2
   rw [if_pos rfl]
   exact h j q (by omega) (by omega) h3 e1
  ·rw [if_neg e2]
   by_cases e3 : p = j
   ·subst e3
    rw [if_pos rfl]
    exact h (p + 1) q (by omega) (by omega) h3 e1
   ·rw [if_neg e3]
    exact h p q h1 h2 h3 e1
theorem InsI.stop (L : Lt lt) {d : Nat → α} {a i j : Nat} (h : InsI lt d a i j) (hs : j ≤ a ∨ (a < j ∧ lt (d j) (d (j - 1)) = false)) : Sd lt d a (i + 1) := by
 intro p q h1 h2 h3
 by_cases e : q = j
 ·subst e
  rcases hs with hs | ⟨_, hs⟩
  ·omega
  ·by_cases e2 : p = q - 1
   ·subst e2; exact hs
   ·exact L.ntrans _ _ _ (h p (q - 1) h1 (by omega) (by omega) (by omega)) hs
 ·exact h p q h1 h2 (by omega) e
def upF (d : Nat → α) (a k : Nat) : Nat → α := fun x => if a ≤ x ∧ x < k then d (x + 1) else if x = k then d a else d x
theorem upF_start (d : Nat → α) (a : Nat) : upF d a a = d := by
 funext x; unfold upF
 rw [if_neg (by omega)]
 split
 ·rename_i h; rw [h]
 ·rfl
theorem upF_step (d : Nat → α) (a k : Nat) (h : a ≤ k) : swF (upF d a k) k (k + 1) = upF d a (k + 1) := by
 funext x; unfold swF upF
 by_cases e1 : x = k
 ·subst e1
  rw [if_pos rfl, if_neg (by omega), if_neg (by omega), if_pos (by omega)]
 ·rw [if_neg e1]
  by_cases e2 : x = k + 1
  ·subst e2
   rw [if_pos rfl, if_neg (by omega), if_pos rfl, if_neg (by omega), if_pos rfl]
  ·rw [if_neg e2, if_neg e1, if_neg e2]
   by_cases e3 : a ≤ x ∧ x < k
   ·rw [if_pos e3, if_pos (by omega)]
   ·rw [if_neg e3, if_neg (by omega)]
theorem upF_sorted (L : Lt lt) (d : Nat → α) (a b i : Nat) (h : Sd lt d (a + 1) b) (hi : a < i) (hb : i ≤ b) (h1 : i = a + 1 ∨ lt (d (i - 1)) (d a) = true) (h2 : i = b ∨ lt (d i) (d a) = false) : Sd lt (upF d a (i - 1)) a b := by
 intro p q hp hpq hq
 unfold upF
 by_cases q1 : q < i - 1
 ·rw [if_pos (by omega), if_pos (by omega)]
  exact h _ _ (by omega) (by omega) (by omega)
 ·rw [if_neg (by omega)]
  by_cases q2 : q = i - 1
  ·rw [if_pos q2, if_pos (by omega)]
   have k1 : lt (d a) (d (i - 1)) = false := by
    rcases h1 with h1 | h1
    ·omega
    ·exact L.asymm _ _ h1
   by_cases e : p + 1 = i - 1
   ·rw [e]; exact k1
   ·exact L.ntrans _ _ _ (h (p + 1) (i - 1) (by omega) (by omega) (by omega)) k1
  ·rw [if_neg q2]
   have k2 : lt (d i) (d a) = false := by
    rcases h2 with h2 | h2
    ·omega
    ·exact h2
   by_cases p1 : p < i - 1
   ·rw [if_pos (by omega)]
    exact h (p + 1) q (by omega) (by omega) hq
   ·rw [if_neg (by omega)]
    by_cases p2 : p = i - 1
    ·rw [if_pos p2]
     by_cases e : q = i
     ·rw [e]; exact k2
     ·exact L.ntrans _ _ _ k2 (h i q (by omega) (by omega) hq)
    ·rw [if_neg p2]
     exact h p q (by omega) (by omega) hq
def dnF (d : Nat → α) (m k : Nat) : Nat → α := fun x => if k < x ∧ x ≤ m then d (x - 1) else if x = k then d m else d x
theorem dnF_start (d : Nat → α) (m : Nat) : dnF d m m = d := by
 funext x; unfold dnF
 rw [if_neg (by omega)]
 split
 ·rename_i h; rw [h]
 ·rfl
theorem dnF_step (d : Nat → α) (m k : Nat) (h : k + 1 ≤ m) : swF (dnF d m (k + 1)) (k + 1) k = dnF d m k := by
 funext x; unfold swF dnF
 by_cases e1 : x = k + 1
 ·subst e1
  rw [if_pos rfl, if_neg (by omega), if_neg (by omega), if_pos (by omega)]
  rfl
 ·rw [if_neg e1]
  by_cases e2 : x = k
  ·subst e2
   rw [if_pos rfl, if_neg (by omega), if_pos rfl, if_neg (by omega), if_pos rfl]
  ·rw [if_neg e2, if_neg e1, if_neg e2]
   by_cases e3 : k + 1 < x ∧ x ≤ m
   ·rw [if_pos e3, if_pos (by omega)]
   ·rw [if_neg e3, if_neg (by omega)]
theorem dnF_sorted (L : Lt lt) (d : Nat → α) (a m i : Nat) (h : Sd lt d a m) (ha : a ≤ i) (hi : i ≤ m) (h1 : i = a ∨ lt (d m) (d (i - 1)) = false) (h2 : i = m ∨ lt (d m) (d i) = true) : Sd lt (dnF d m i) a (m + 1) := by
 intro p q hp hpq hq
 unfold dnF
 by_cases q1 : q < i
 ·rw [if_neg (by omega), if_neg (by omega), if_neg (by omega), if_neg (by omega)]
  exact h _ _ (by omega) (by omega) (by omega)
 ·by_cases q2 : q = i
  ·rw [if_neg (by omega), if_pos q2, if_neg (by omega), if_neg (by omega)]
   have k1 : lt (d m) (d (i - 1)) = false := by
    rcases h1 with h1 | h1
    ·omega
    ·exact h1
   by_cases e : p = i - 1
   ·rw [e]; exact k1
   ·exact L.ntrans _ _ _ (h p (i - 1) (by omega) (by omega) (by omega)) k1
  ·rw [if_pos (by omega)]
   have k2 : lt (d i) (d m) = false := by
    rcases h2 with h2 | h2
    ·omega
    ·exact L.asymm _ _ h2
   by_cases p1 : p < i
   ·rw [if_neg (by omega), if_neg (by omega)]
    exact h p (q - 1) (by omega) (by omega) (by omega)
   ·by_cases p2 : p = i
    ·rw [if_neg (by omega), if_pos p2]
     by_cases e : q - 1 = i
     ·rw [e]; exact k2
     ·exact L.ntrans _ _ _ k2 (h i (q - 1) (by omega) (by omega) (by omega))
    ·rw [if_pos (by omega)]
     exact h (p - 1) (q - 1) (by omega) (by omega) (by omega)
def rotF (d : Nat → α) (s m e : Nat) : Nat → α := fun x => if s ≤ x ∧ x < s + (e - m) then d (m + (x - s)) else if s + (e - m) ≤ x ∧ x < e then d (x - (e - m)) else d x
def exF (d : Nat → α) (a b i : Nat) : Nat → α := fun x => if a ≤ x ∧ x < a + i then d (b + (x - a)) else if b ≤ x ∧ x < b + i then d (a + (x - b)) else d x
theorem exF_zero (d : Nat → α) (a b : Nat) : exF d a b 0 = d := by
 funext x; unfold exF
 rw [if_neg (by omega), if_neg (by omega)]
theorem exF_step (d : Nat → α) (a b i n : Nat) (h : a + n ≤ b) (hi : i < n) : swF (exF d a b i) (a + i) (b + i) = exF d a b (i + 1) := by
 funext x; unfold swF exF
 by_cases e1 : x = a + i
 ·subst e1
  rw [if_pos rfl, if_neg (by omega), if_neg (by omega), if_pos (by omega)]
  congr 1; omega
 ·rw [if_neg e1]
  by_cases e2 : x = b + i
  ·subst e2
   rw [if_pos rfl, if_neg (by omega), if_neg (by omega), if_neg (by omega), if_pos (by omega)]
   congr 1; omega
  ·rw [if_neg e2]
   by_cases e3 : a ≤ x ∧ x < a + i
   ·rw [if_pos e3, if_pos (by omega)]
   ·rw [if_neg e3]
    by_cases e4 : b ≤ x ∧ x < b + i
    ·rw [if_pos e4, if_neg (by omega), if_pos (by omega)]
    ·rw [if_neg e4, if_neg (by omega), if_neg (by omega)]
theorem rotF_left (d : Nat → α) (m i j : Nat) (hi : i ≤ m) (hij : j < i) : rotF (exF d (m - i) m j) (m - (i - j)) m (m + j) = rotF d (m - i) m (m + j) := by
 funext x; unfold rotF exF
 by_cases c1 : x < m - i
 ·rw [if_neg (by omega), if_neg (by omega), if_neg (by omega), if_neg (by omega), if_neg (by omega), if_neg (by omega)]
 by_cases c2 : x < m - i + j
 ·rw [if_neg (by omega), if_neg (by omega), if_pos (by omega), if_pos (by omega)]
 by_cases c3 : x < m + j
 ·by_cases c4 : x < m - (i - j) + j
  ·rw [if_pos (by omega), if_neg (by omega), if_pos (by omega), if_neg (by omega), if_pos (by omega)]
   congr 1; omega
  ·rw [if_neg (by omega), if_pos (by omega), if_neg (by omega), if_neg (by omega), if_neg (by omega), if_pos (by omega)]
 ·rw [if_neg (by omega), if_neg (by omega), if_neg (by omega), if_neg (by omega), if_neg (by omega), if_neg (by omega)]
theorem rotF_right (d : Nat → α) (m i j : Nat) (hi : i ≤ m) (hij : i < j) : rotF (exF d (m - i) (m + j - i) i) (m - i) m (m + (j - i)) = rotF d (m - i) m (m + j) := by
 funext x; unfold rotF exF
 by_cases c1 : x < m - i
 ·rw [if_neg (by omega), if_neg (by omega), if_neg (by omega), if_neg (by omega), if_neg (by omega), if_neg (by omega)]
 by_cases c2 : m + j ≤ x
 ·rw [if_neg (by omega), if_neg (by omega), if_neg (by omega), if_neg (by omega), if_neg (by omega), if_neg (by omega)]
 by_cases c3 : x < m - i + (j - i)
 ·rw [if_pos (by omega), if_neg (by omega), if_neg (by omega), if_pos (by omega)]
 by_cases c4 : x < m + j - i
 ·rw [if_neg (by omega), if_pos (by omega), if_pos (by omega), if_pos (by omega)]
  congr 1; omega
 ·rw [if_neg (by omega), if_neg (by omega), if_neg (by omega), if_pos (by omega), if_neg (by omega), if_pos (by omega)]
  congr 1; omega
theorem rotF_even (d : Nat → α) (m i : Nat) (hi : i ≤ m) : exF d (m - i) m i = rotF d (m - i) m (m + i) := by
 funext x; unfold rotF exF
 by_cases c1 : m - i ≤ x ∧ x < m - i + i
 ·rw [if_pos c1, if_pos (by omega)]
 ·by_cases c2 : m ≤ x ∧ x < m + i
  ·rw [if_neg c1, if_pos c2, if_neg (by omega), if_pos (by omega)]
   congr 1; omega
  ·rw [if_neg c1, if_neg c2, if_neg (by omega), if_neg (by omega)]
theorem rotF_none_left (d : Nat → α) (m e : Nat) (h : m ≤ e) : rotF d m m e = d := by
 funext x; unfold rotF
 by_cases c : m ≤ x ∧ x < m + (e - m)
 ·rw [if_pos c]; congr 1; omega
 ·rw [if_neg c, if_neg (by omega)]
theorem rotF_none_right (d : Nat → α) (s m : Nat) : rotF d s m m = d := by
 funext x; unfold rotF
 rw [if_neg (by omega)]
 by_cases c : s + (m - m) ≤ x ∧ x < m
 ·rw [if_pos c]; congr 1; omega
 ·rw [if_neg c]
theorem rotF_halves (L : Lt lt) (d : Nat → α) (a m b s e mid : Nat) (h1 : Sd lt d a m) (h2 : Sd lt d m b) (hs : a ≤ s) (hs2 : s ≤ m) (he : m ≤ e) (he2 : e ≤ b) (hmid : s + (e - m) = mid)
  (c1 : s = a ∨ e = b ∨ lt (d e) (d (s - 1)) = false) (c2 : s = m ∨ e = m ∨ lt (d (e - 1)) (d s) = true) :
  Sd lt (rotF d s m e) a s ∧ Sd lt (rotF d s m e) s mid ∧ Sd lt (rotF d s m e) mid e ∧ Sd lt (rotF d s m e) e b ∧ (∀ x y, a ≤ x → x < mid → mid ≤ y → y < b → lt (rotF d s m e y) (rotF d s m e x) = false) := by
 have v1 : ∀ x, x < s → rotF d s m e x = d x := fun x hx => by unfold rotF; rw [if_neg (by omega), if_neg (by omega)]
 have v2 : ∀ x, s ≤ x → x < mid → rotF d s m e x = d (m + (x - s)) := fun x hx hy => by unfold rotF; rw [if_pos (by omega)]
 have v3 : ∀ x, mid ≤ x → x < e → rotF d s m e x = d (x - (e - m)) := fun x hx hy => by unfold rotF; rw [if_neg (by omega), if_pos (by omega)]
 have v4 : ∀ x, e ≤ x → rotF d s m e x = d x := fun x hx => by unfold rotF; rw [if_neg (by omega), if_neg (by omega)]
 refine ⟨fun i j i1 i2 i3 => ?_, fun i j i1 i2 i3 => ?_, fun i j i1 i2 i3 => ?_, fun i j i1 i2 i3 => ?_, fun x y x1 x2 y1 y2 => ?_⟩
 ·rw [v1 i (by omega), v1 j (by omega)]; exact h1 i j i1 i2 (by omega)
 ·rw [v2 i (by omega) (by omega), v2 j (by omega) (by omega)]; exact h2 _ _ (by omega) (by omega) (by omega)
 ·rw [v3 i (by omega) (by omega), v3 j (by omega) (by omega)]; exact h1 _ _ (by omega) (by omega) (by omega)
 ·rw [v4 i (by omega), v4 j (by omega)]; exact h2 i j (by omega) i2 (by omega)
 ·by_cases xs : x < s
  ·rw [v1 x xs]
   by_cases ys : y < e
   ·rw [v3 y y1 ys]; exact h1 _ _ x1 (by omega) (by omega)
   ·rw [v4 y (by omega)]
    have k : lt (d e) (d (s - 1)) = false := by
     rcases c1 with c | c | c
     ·omega
     ·omega
     ·exact c
    have k2 : lt (d y) (d (s - 1)) = false := by
     by_cases q : y = e
     ·rw [q]; exact k
     ·exact L.ntrans _ _ _ k (h2 e y (by omega) (by omega) y2)
    by_cases q : x = s - 1
    ·rw [q]; exact k2
    ·exact L.ntrans _ _ _ (h1 x (s - 1) x1 (by omega) (by omega)) k2
  ·rw [v2 x (by omega) x2]
   by_cases ys : y < e
   ·rw [v3 y y1 ys]
    have k : lt (d s) (d (e - 1)) = false := by
     rcases c2 with c | c | c
     ·omega
     ·omega
     ·exact L.asymm _ _ c
    have k2 : lt (d (y - (e - m))) (d (e - 1)) = false := by
     by_cases q : y - (e - m) = s
     ·rw [q]; exact k
     ·exact L.ntrans _ _ _ k (h1 s _ (by omega) (by omega) (by omega))
    by_cases q : m + (x - s) = e - 1
    ·rw [q]; exact k2
    ·exact L.ntrans _ _ _ (h2 _ (e - 1) (by omega) (by omega) (by omega)) k2
   ·rw [v4 y (by omega)]
    exact h2 _ y (by omega) (by omega) y2
theorem halves_sorted (f g h : Nat → α) (a mid b : Nat) (hg : Sw a mid f g) (hh : Sw mid b g h) (sg : Sd lt g a mid) (sh : Sd lt h mid b)
  (hc : ∀ x y, a ≤ x → x < mid → mid ≤ y → y < b → lt (f y) (f x) = false) : Sd lt h a b := by
 intro i j h1 h2 h3
 by_cases ci : i < mid
 ·by_cases cj : j < mid
  ·rw [hh.out i (.inl ci), hh.out j (.inl cj)]; exact sg i j h1 h2 cj
  ·rw [hh.out i (.inl ci)]
   obtain ⟨x, x1, x2, ex⟩ := hg.src i h1 ci
   obtain ⟨y, y1, y2, ey⟩ := hh.src j (by omega) h3
   rw [ex, ey, hg.out y (.inr y1)]
   exact hc x y x1 x2 y1 y2
 ·exact sh i j (by omega) h2 h3
def Bl (lt : α → α → Bool) (d : Nat → α) (s lo hi : Nat) : Prop := ∀ i j, lo ≤ i → i < j → j < hi → i / s = j / s → lt (d j) (d i) = false
theorem Bl.whole {d : Nat → α} {s n : Nat} (h : Bl lt d s 0 n) (hn : n ≤ s) : Sd lt d 0 n := fun i j h1 h2 h3 =>
 h i j h1 h2 h3 (by rw [Nat.div_eq_of_lt (by omega), Nat.div_eq_of_lt (by omega)])
theorem Bl.grow {d e : Nat → α} {s c hi : Nat} (hs : 0 < s) (h : Bl lt d s 0 (c * s)) (ho : ∀ x, x < c * s → e x = d x) (hd : Sd lt e (c * s) hi) : Bl lt e s 0 hi := by
 intro i j _ h2 h3 h4
 by_cases hj : j < c * s
 ·rw [ho i (by omega), ho j hj]
  exact h i j (by omega) h2 hj h4
 ·have h5 : c ≤ i / s := by rw [h4]; exact (Nat.le_div_iff_mul_le hs).2 (by omega)
  exact hd i j ((Nat.le_div_iff_mul_le hs).1 h5) h2 h3
theorem Bl.sd {d : Nat → α} {s lo hi c e : Nat} (_hs : 0 < s) (h : Bl lt d s lo hi) (hl : lo ≤ c * s) (he : e ≤ hi) (he2 : e ≤ c * s + s) : Sd lt d (c * s) e := by
 intro i j h1 h2 h3
 have q : ∀ x, c * s ≤ x → x < c * s + s → x / s = c := fun x hx hy => Nat.div_eq_of_lt_le hx (by rw [Nat.add_mul, Nat.one_mul]; exact hy)
 exact h i j (by omega) h2 (by omega) (by rw [q i h1 (by omega), q j (by omega) (by omega)])
theorem Bl.congr {d e : Nat → α} {s lo hi lo' : Nat} (h : Bl lt d s lo hi) (hl : lo ≤ lo') (ho : ∀ x, lo' ≤ x → e x = d x) : Bl lt e s lo' hi := fun i j h1 h2 h3 h4 => by
 rw [ho i h1, ho j (by omega)]
 exact h i j (by omega) h2 h3 h4
end
end Go.Proofs.YtjjnmefihdjglaaGreat
