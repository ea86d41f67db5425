import Derived.Test.YtjjnmefihdjglaaGreatKA
import Derived.Laws.IdiomCopy
set_option maxRecDepth 100000
set_option maxHeartbeats 64000000
set_option linter.all false
namespace Go.Proofs.YtjjnmefihdjglaaGreat
def swF {α : Type} (d : Nat → α) (i j : Nat) : Nat → α := fun x => if x = i then d j else if x = j then d i else d x
inductive Sw {α : Type} (a b : Nat) (d : Nat → α) : (Nat → α) → Prop
 | refl : Sw a b d d
 | swap {d' : Nat → α} (i j : Nat) : Sw a b d d' → a ≤ i → i < b → a ≤ j → j < b → Sw a b d (swF d' i j)
section
variable {α : Type}
theorem Sw.trans {a b : Nat} {d e f : Nat → α} (h : Sw a b d e) (k : Sw a b e f) : Sw a b d f := by
 induction k with
 | refl => exact h
 | swap i j _ h1 h2 h3 h4 ih => exact ih.swap i j h1 h2 h3 h4
theorem Sw.mono {a b a' b' : Nat} {d e : Nat → α} (h : Sw a b d e) (ha : a' ≤ a) (hb : b ≤ b') : Sw a' b' d e := by
 induction h with
 | refl => exact .refl
 | swap i j _ h1 h2 h3 h4 ih => exact ih.swap i j (by omega) (by omega) (by omega) (by omega)
theorem Sw.out {a b : Nat} {d e : Nat → α} (h : Sw a b d e) (x : Nat) (hx : x < a ∨ b ≤ x) : e x = d x := by
 induction h with
 | refl => rfl
 | swap i j _ h1 h2 h3 h4 ih => unfold swF; rw [if_neg (by omega),if_neg (by omega)]; exact ih
theorem Sw.src {a b : Nat} {d e : Nat → α} (h : Sw a b d e) (x : Nat) (h1 : a ≤ x) (h2 : x < b) : ∃ y,a ≤ y ∧ y < b ∧ e x = d y := by
 induction h generalizing x with
 | refl => exact ⟨x,h1,h2,rfl⟩
 | swap i j _ k1 k2 k3 k4 ih =>
   unfold swF
   split
   ·exact ih j k3 k4
   ·split
    ·exact ih i k1 k2
    ·exact ih x h1 h2
theorem swF_perm (d : Nat → α) (i j n : Nat) (hi : i < n) (hj : j < n) : ((List.range n).map (swF d i j)).Perm ((List.range n).map d) := by
 have e : swF d i j = d ∘ (fun x => if x = i then j else if x = j then i else x) := by
  funext x
  simp only [swF,Function.comp]
  split
  ·rfl
  ·split <;> rfl
 rw [e,← List.map_map]
 refine List.Perm.map d ?_
 refine (List.perm_ext_iff_of_nodup ?_ List.nodup_range).2 ?_
 ·rw [List.nodup_iff_pairwise_ne,List.pairwise_map]
  refine List.Pairwise.imp ?_ (List.nodup_iff_pairwise_ne.1 (List.nodup_range (n := n)))
  intro x y hxy
  repeat' split
  all_goals omega
 ·intro x
  simp only [List.mem_map,List.mem_range]
  constructor
  ·rintro ⟨y,hy,rfl⟩
   repeat' split
   all_goals omega
  ·intro hx
   refine ⟨if x = i then j else if x = j then i else x,?_,?_⟩
   ·repeat' split
    all_goals omega
   ·repeat' split
    all_goals omega
theorem Sw.perm {a b n : Nat} {d e : Nat → α} (h : Sw a b d e) (hn : b ≤ n) : ((List.range n).map e).Perm ((List.range n).map d) := by
 induction h with
 | refl => exact List.Perm.refl _
 | swap i j _ h1 h2 h3 h4 ih => exact (swF_perm _ i j n (by omega) (by omega)).trans ih
structure Lt (lt : α → α → Bool) : Prop where
 asymm : ∀ x y,lt x y = true → lt y x = false
 ntrans : ∀ x y z,lt y x = false → lt z y = false → lt z x = false
def Sd (lt : α → α → Bool) (d : Nat → α) (a b : Nat) : Prop := ∀ i j,a ≤ i → i < j → j < b → lt (d j) (d i) = false
variable {lt : α → α → Bool}
theorem Sd.small (d : Nat → α) (a b : Nat) (h : b ≤ a + 1) : Sd lt d a b := fun i j _ _ _ => by omega
theorem Sd.congr {d e : Nat → α} {a b : Nat} (h : Sd lt d a b) (k : ∀ x,a ≤ x → x < b → e x = d x) : Sd lt e a b := fun i j h1 h2 h3 => by
 rw [k i h1 (by omega),k j (by omega) h3]
 exact h i j h1 h2 h3
theorem Sd.sub {d : Nat → α} {a b a' b' : Nat} (h : Sd lt d a b) (ha : a ≤ a') (hb : b' ≤ b) : Sd lt d a' b' := fun i j h1 h2 h3 => h i j (by omega) h2 (by omega)
def InsI (lt : α → α → Bool) (d : Nat → α) (a i j : Nat) : Prop := ∀ p q,a ≤ p → p < q → q ≤ i → q ≠ j → lt (d q) (d p) = false
theorem InsI.start {d : Nat → α} {a i : Nat} (h : Sd lt d a i) : InsI lt d a i i := fun p q h1 h2 h3 h4 => h p q h1 h2 (by omega)
theorem InsI.step (L : Lt lt) {d : Nat → α} {a i j : Nat} (h : InsI lt d a i (j + 1)) (hj : a ≤ j) (hi : j + 1 ≤ i) (hl : lt (d (j + 1)) (d j) = true) : InsI lt (swF d (j + 1) j) a i j := by
 intro p q h1 h2 h3 h4
 unfold swF
 by_cases e1 : q = j + 1
 ·subst e1
  rw [if_pos rfl]
  by_cases e2 : p = j
  ·subst e2
   rw [if_neg (by omega),if_pos rfl]
   exact L.asymm _ _ hl
  ·rw [if_neg (by omega),if_neg e2]
   exact h p j h1 (by omega) (by omega) (by omega)
 ·rw [if_neg e1,if_neg h4]
  by_cases e2 : p = j + 1
  ·subst e2
   rw [if_pos rfl]
   exact h j q (by omega) (by omega) h3 e1
  ·rw [if_neg e2]
   by_cases e3 : p = j
   ·subst e3
    rw [if_pos rfl]
    exact h (p + 1) q (by omega) (by omega) h3 e1
   ·rw [if_neg e3]
    exact h p q h1 h2 h3 e1
theorem InsI.stop (L : Lt lt) {d : Nat → α} {a i j : Nat} (h : InsI lt d a i j) (hs : j ≤ a ∨ (a < j ∧ lt (d j) (d (j - 1)) = false)) : Sd lt d a (i + 1) := by
 intro p q h1 h2 h3
 by_cases e : q = j
 ·subst e
  rcases hs with hs | ⟨_,hs⟩
  ·omega
  ·by_cases e2 : p = q - 1
   ·subst e2; exact hs
   ·exact L.ntrans _ _ _ (h p (q - 1) h1 (by omega) (by omega) (by omega)) hs
 ·exact h p q h1 h2 (by omega) e
def upF (d : Nat → α) (a k : Nat) : Nat → α := fun x => if a ≤ x ∧ x < k then d (x + 1) else if x = k then d a else d x
theorem upF_start (d : Nat → α) (a : Nat) : upF d a a = d := by
 funext x; unfold upF
 rw [if_neg (by omega)]
 split
 ·rename_i h; rw [h]
 ·rfl
theorem upF_step (d : Nat → α) (a k : Nat) (h : a ≤ k) : swF (upF d a k) k (k + 1) = upF d a (k + 1) := by
 funext x; unfold swF upF
 by_cases e1 : x = k
 ·subst e1
  rw [if_pos rfl,if_neg (by omega),if_neg (by omega),if_pos (by omega)]
 ·rw [if_neg e1]
  by_cases e2 : x = k + 1
  ·subst e2
   rw [if_pos rfl,if_neg (by omega),if_pos rfl,if_neg (by omega),if_pos rfl]
  ·rw [if_neg e2,if_neg e1,if_neg e2]
   by_cases e3 : a ≤ x ∧ x < k
   ·rw [if_pos e3,if_pos (by omega)]
   ·rw [if_neg e3,if_neg (by omega)]
theorem upF_sorted (L : Lt lt) (d : Nat → α) (a b i : Nat) (h : Sd lt d (a + 1) b) (hi : a < i) (hb : i ≤ b) (h1 : i = a + 1 ∨ lt (d (i - 1)) (d a) = true) (h2 : i = b ∨ lt (d i) (d a) = false) : Sd lt (upF d a (i - 1)) a b := by
 intro p q hp hpq hq
 unfold upF
 by_cases q1 : q < i - 1
 ·rw [if_pos (by omega),if_pos (by omega)]
  exact h _ _ (by omega) (by omega) (by omega)
 ·rw [if_neg (by omega)]
  by_cases q2 : q = i - 1
  ·rw [if_pos q2,if_pos (by omega)]
   have k1 : lt (d a) (d (i - 1)) = false := by
    rcases h1 with h1 | h1
    ·omega
    ·exact L.asymm _ _ h1
   by_cases e : p + 1 = i - 1
   ·rw [e]; exact k1
   ·exact L.ntrans _ _ _ (h (p + 1) (i - 1) (by omega) (by omega) (by omega)) k1
  ·rw [if_neg q2]
   have k2 : lt (d i) (d a) = false := by
    rcases h2 with h2 | h2
    ·omega
    ·exact h2
   by_cases p1 : p < i - 1
   ·rw [if_pos (by omega)]
    exact h (p + 1) q (by omega) (by omega) hq
   ·rw [if_neg (by omega)]
    by_cases p2 : p = i - 1
    ·rw [if_pos p2]
     by_cases e : q = i
     ·rw [e]; exact k2
     ·exact L.ntrans _ _ _ k2 (h i q (by omega) (by omega) hq)
    ·rw [if_neg p2]
     exact h p q (by omega) (by omega) hq
def dnF (d : Nat → α) (m k : Nat) : Nat → α := fun x => if k < x ∧ x ≤ m then d (x - 1) else if x = k then d m else d x
theorem dnF_start (d : Nat → α) (m : Nat) : dnF d m m = d := by
 funext x; unfold dnF
 rw [if_neg (by omega)]
 split
 ·rename_i h; rw [h]
 ·rfl
theorem dnF_step (d : Nat → α) (m k : Nat) (h : k + 1 ≤ m) : swF (dnF d m (k + 1)) (k + 1) k = dnF d m k := by
 funext x; unfold swF dnF
 by_cases e1 : x = k + 1
 ·subst e1
  rw [if_pos rfl,if_neg (by omega),if_neg (by omega),if_pos (by omega)]
  rfl
 ·rw [if_neg e1]
  by_cases e2 : x = k
  ·subst e2
   rw [if_pos rfl,if_neg (by omega),if_pos rfl,if_neg (by omega),if_pos rfl]
  ·rw [if_neg e2,if_neg e1,if_neg e2]
   by_cases e3 : k + 1 < x ∧ x ≤ m
   ·rw [if_pos e3,if_pos (by omega)]
   ·rw [if_neg e3,if_neg (by omega)]
theorem dnF_sorted (L : Lt lt) (d : Nat → α) (a m i : Nat) (h : Sd lt d a m) (ha : a ≤ i) (hi : i ≤ m) (h1 : i = a ∨ lt (d m) (d (i - 1)) = false) (h2 : i = m ∨ lt (d m) (d i) = true) : Sd lt (dnF d m i) a (m + 1) := by
 intro p q hp hpq hq
 unfold dnF
 by_cases q1 : q < i
 ·rw [if_neg (by omega),if_neg (by omega),if_neg (by omega),if_neg (by omega)]
  exact h _ _ (by omega) (by omega) (by omega)
 ·by_cases q2 : q = i
  ·rw [if_neg (by omega),if_pos q2,if_neg (by omega),if_neg (by omega)]
   have k1 : lt (d m) (d (i - 1)) = false := by
    rcases h1 with h1 | h1
    ·omega
    ·exact h1
   by_cases e : p = i - 1
   ·rw [e]; exact k1
   ·exact L.ntrans _ _ _ (h p (i - 1) (by omega) (by omega) (by omega)) k1
  ·rw [if_pos (by omega)]
   have k2 : lt (d i) (d m) = false := by
    rcases h2 with h2 | h2
    ·omega
    ·exact L.asymm _ _ h2
   by_cases p1 : p < i
   ·rw [if_neg (by omega),if_neg (by omega)]
    exact h p (q - 1) (by omega) (by omega) (by omega)
   ·by_cases p2 : p = i
    ·rw [if_neg (by omega),if_pos p2]
     by_cases e : q - 1 = i
     ·rw [e]; exact k2
     ·exact L.ntrans _ _ _ k2 (h i (q - 1) (by omega) (by omega) (by omega))
    ·rw [if_pos (by omega)]
     exact h (p - 1) (q - 1) (by omega) (by omega) (by omega)
def rotF (d : Nat → α) (s m e : Nat) : Nat → α := fun x => if s ≤ x ∧ x < s + (e - m) then d (m + (x - s)) else if s + (e - m) ≤ x ∧ x < e then d (x - (e - m)) else d x
def exF (d : Nat → α) (a b i : Nat) : Nat → α := fun x => if a ≤ x ∧ x < a + i then d (b + (x - a)) else if b ≤ x ∧ x < b + i then d (a + (x - b)) else d x
theorem exF_zero (d : Nat → α) (a b : Nat) : exF d a b 0 = d := by
 funext x; unfold exF
 rw [if_neg (by omega),if_neg (by omega)]
theorem exF_step (d : Nat → α) (a b i n : Nat) (h : a + n ≤ b) (hi : i < n) : swF (exF d a b i) (a + i) (b + i) = exF d a b (i + 1) := by
 funext x; unfold swF exF
 by_cases e1 : x = a + i
 ·subst e1
  rw [if_pos rfl,if_neg (by omega),if_neg (by omega),if_pos (by omega)]
  congr 1; omega
 ·rw [if_neg e1]
  by_cases e2 : x = b + i
  ·subst e2
   rw [if_pos rfl,if_neg (by omega),if_neg (by omega),if_neg (by omega),if_pos (by omega)]
   congr 1; omega
  ·rw [if_neg e2]
   by_cases e3 : a ≤ x ∧ x < a + i
   ·rw [if_pos e3,if_pos (by omega)]
   ·rw [if_neg e3]
    by_cases e4 : b ≤ x ∧ x < b + i
    ·rw [if_pos e4,if_neg (by omega),if_pos (by omega)]
    ·rw [if_neg e4,if_neg (by omega),if_neg (by omega)]
theorem rotF_left (d : Nat → α) (m i j : Nat) (hi : i ≤ m) (hij : j < i) : rotF (exF d (m - i) m j) (m - (i - j)) m (m + j) = rotF d (m - i) m (m + j) := by
 funext x; unfold rotF exF
 by_cases c1 : x < m - i
 ·rw [if_neg (by omega),if_neg (by omega),if_neg (by omega),if_neg (by omega),if_neg (by omega),if_neg (by omega)]
 by_cases c2 : x < m - i + j
 ·rw [if_neg (by omega),if_neg (by omega),if_pos (by omega),if_pos (by omega)]
 by_cases c3 : x < m + j
 ·by_cases c4 : x < m - (i - j) + j
  ·rw [if_pos (by omega),if_neg (by omega),if_pos (by omega),if_neg (by omega),if_pos (by omega)]
   congr 1; omega
  ·rw [if_neg (by omega),if_pos (by omega),if_neg (by omega),if_neg (by omega),if_neg (by omega),if_pos (by omega)]
 ·rw [if_neg (by omega),if_neg (by omega),if_neg (by omega),if_neg (by omega),if_neg (by omega),if_neg (by omega)]
theorem rotF_right (d : Nat → α) (m i j : Nat) (hi : i ≤ m) (hij : i < j) : rotF (exF d (m - i) (m + j - i) i) (m - i) m (m + (j - i)) = rotF d (m - i) m (m + j) := by
 funext x; unfold rotF exF
 by_cases c1 : x < m - i
 ·rw [if_neg (by omega),if_neg (by omega),if_neg (by omega),if_neg (by omega),if_neg (by omega),if_neg (by omega)]
 by_cases c2 : m + j ≤ x
 ·rw [if_neg (by omega),if_neg (by omega),if_neg (by omega),if_neg (by omega),if_neg (by omega),if_neg (by omega)]
 by_cases c3 : x < m - i + (j - i)
 ·rw [if_pos (by omega),if_neg (by omega),if_neg (by omega),if_pos (by omega)]
 by_cases c4 : x < m + j - i
 ·rw [if_neg (by omega),if_pos (by omega),if_pos (by omega),if_pos (by omega)]
  congr 1; omega
 ·rw [if_neg (by omega),if_neg (by omega),if_neg (by omega),if_pos (by omega),if_neg (by omega),if_pos (by omega)]
  congr 1; omega
theorem rotF_even (d : Nat → α) (m i : Nat) (hi : i ≤ m) : exF d (m - i) m i = rotF d (m - i) m (m + i) := by
 funext x; unfold rotF exF
 by_cases c1 : m - i ≤ x ∧ x < m - i + i
 ·rw [if_pos c1,if_pos (by omega)]
 ·by_cases c2 : m ≤ x ∧ x < m + i
  ·rw [if_neg c1,if_pos c2,if_neg (by omega),if_pos (by omega)]
   congr 1; omega
  ·rw [if_neg c1,if_neg c2,if_neg (by omega),if_neg (by omega)]
theorem rotF_none_left (d : Nat → α) (m e : Nat) (h : m ≤ e) : rotF d m m e = d := by
 funext x; unfold rotF
 by_cases c : m ≤ x ∧ x < m + (e - m)
 ·rw [if_pos c]; congr 1; omega
 ·rw [if_neg c,if_neg (by omega)]
theorem rotF_none_right (d : Nat → α) (s m : Nat) : rotF d s m m = d := by
 funext x; unfold rotF
 rw [if_neg (by omega)]
 by_cases c : s + (m - m) ≤ x ∧ x < m
 ·rw [if_pos c]; congr 1; omega
 ·rw [if_neg c]
theorem rotF_halves (L : Lt lt) (d : Nat → α) (a m b s e mid : Nat) (h1 : Sd lt d a m) (h2 : Sd lt d m b) (hs : a ≤ s) (hs2 : s ≤ m) (he : m ≤ e) (he2 : e ≤ b) (hmid : s + (e - m) = mid)
  (c1 : s = a ∨ e = b ∨ lt (d e) (d (s - 1)) = false) (c2 : s = m ∨ e = m ∨ lt (d (e - 1)) (d s) = true) :
  Sd lt (rotF d s m e) a s ∧ Sd lt (rotF d s m e) s mid ∧ Sd lt (rotF d s m e) mid e ∧ Sd lt (rotF d s m e) e b ∧ (∀ x y,a ≤ x → x < mid → mid ≤ y → y < b → lt (rotF d s m e y) (rotF d s m e x) = false) := by
 have v1 : ∀ x,x < s → rotF d s m e x = d x := fun x hx => by unfold rotF; rw [if_neg (by omega),if_neg (by omega)]
 have v2 : ∀ x,s ≤ x → x < mid → rotF d s m e x = d (m + (x - s)) := fun x hx hy => by unfold rotF; rw [if_pos (by omega)]
 have v3 : ∀ x,mid ≤ x → x < e → rotF d s m e x = d (x - (e - m)) := fun x hx hy => by unfold rotF; rw [if_neg (by omega),if_pos (by omega)]
 have v4 : ∀ x,e ≤ x → rotF d s m e x = d x := fun x hx => by unfold rotF; rw [if_neg (by omega),if_neg (by omega)]
 refine ⟨fun i j i1 i2 i3 => ?_,fun i j i1 i2 i3 => ?_,fun i j i1 i2 i3 => ?_,fun i j i1 i2 i3 => ?_,fun x y x1 x2 y1 y2 => ?_⟩
 ·rw [v1 i (by omega),v1 j (by omega)]; exact h1 i j i1 i2 (by omega)
 ·rw [v2 i (by omega) (by omega),v2 j (by omega) (by omega)]; exact h2 _ _ (by omega) (by omega) (by omega)
 ·rw [v3 i (by omega) (by omega),v3 j (by omega) (by omega)]; exact h1 _ _ (by omega) (by omega) (by omega)
 ·rw [v4 i (by omega),v4 j (by omega)]; exact h2 i j (by omega) i2 (by omega)
 ·by_cases xs : x < s
  ·rw [v1 x xs]
   by_cases ys : y < e
   ·rw [v3 y y1 ys]; exact h1 _ _ x1 (by omega) (by omega)
   ·rw [v4 y (by omega)]
    have k : lt (d e) (d (s - 1)) = false := by
     rcases c1 with c | c | c
     ·omega
     ·omega
     ·exact c
    have k2 : lt (d y) (d (s - 1)) = false := by
     by_cases q : y = e
     ·rw [q]; exact k
     ·exact L.ntrans _ _ _ k (h2 e y (by omega) (by omega) y2)
    by_cases q : x = s - 1
    ·rw [q]; exact k2
    ·exact L.ntrans _ _ _ (h1 x (s - 1) x1 (by omega) (by omega)) k2
  ·rw [v2 x (by omega) x2]
   by_cases ys : y < e
   ·rw [v3 y y1 ys]
    have k : lt (d s) (d (e - 1)) = false := by
     rcases c2 with c | c | c
     ·omega
     ·omega
     ·exact L.asymm _ _ c
    have k2 : lt (d (y - (e - m))) (d (e - 1)) = false := by
     by_cases q : y - (e - m) = s
     ·rw [q]; exact k
     ·exact L.ntrans _ _ _ k (h1 s _ (by omega) (by omega) (by omega))
    by_cases q : m + (x - s) = e - 1
    ·rw [q]; exact k2
    ·exact L.ntrans _ _ _ (h2 _ (e - 1) (by omega) (by omega) (by omega)) k2
   ·rw [v4 y (by omega)]
    exact h2 _ y (by omega) (by omega) y2
theorem halves_sorted (f g h : Nat → α) (a mid b : Nat) (hg : Sw a mid f g) (hh : Sw mid b g h) (sg : Sd lt g a mid) (sh : Sd lt h mid b)
  (hc : ∀ x y,a ≤ x → x < mid → mid ≤ y → y < b → lt (f y) (f x) = false) : Sd lt h a b := by
 intro i j h1 h2 h3
 by_cases ci : i < mid
 ·by_cases cj : j < mid
  ·rw [hh.out i (.inl ci),hh.out j (.inl cj)]; exact sg i j h1 h2 cj
  ·rw [hh.out i (.inl ci)]
   obtain ⟨x,x1,x2,ex⟩ := hg.src i h1 ci
   obtain ⟨y,y1,y2,ey⟩ := hh.src j (by omega) h3
   rw [ex,ey,hg.out y (.inr y1)]
   exact hc x y x1 x2 y1 y2
 ·exact sh i j (by omega) h2 h3
def Bl (lt : α → α → Bool) (d : Nat → α) (s lo hi : Nat) : Prop := ∀ i j,lo ≤ i → i < j → j < hi → i / s = j / s → lt (d j) (d i) = false
theorem Bl.whole {d : Nat → α} {s n : Nat} (h : Bl lt d s 0 n) (hn : n ≤ s) : Sd lt d 0 n := fun i j h1 h2 h3 =>
 h i j h1 h2 h3 (by rw [Nat.div_eq_of_lt (by omega),Nat.div_eq_of_lt (by omega)])
theorem Bl.grow {d e : Nat → α} {s c hi : Nat} (hs : 0 < s) (h : Bl lt d s 0 (c * s)) (ho : ∀ x,x < c * s → e x = d x) (hd : Sd lt e (c * s) hi) : Bl lt e s 0 hi := by
 intro i j _ h2 h3 h4
 by_cases hj : j < c * s
 ·rw [ho i (by omega),ho j hj]
  exact h i j (by omega) h2 hj h4
 ·have h5 : c ≤ i / s := by rw [h4]; exact (Nat.le_div_iff_mul_le hs).2 (by omega)
  exact hd i j ((Nat.le_div_iff_mul_le hs).1 h5) h2 h3
theorem Bl.sd {d : Nat → α} {s lo hi c e : Nat} (_hs : 0 < s) (h : Bl lt d s lo hi) (hl : lo ≤ c * s) (he : e ≤ hi) (he2 : e ≤ c * s + s) : Sd lt d (c * s) e := by
 intro i j h1 h2 h3
 have q : ∀ x,c * s ≤ x → x < c * s + s → x / s = c := fun x hx hy => Nat.div_eq_of_lt_le hx (by rw [Nat.add_mul,Nat.one_mul]; exact hy)
 exact h i j (by omega) h2 (by omega) (by rw [q i h1 (by omega),q j (by omega) (by omega)])
theorem Bl.congr {d e : Nat → α} {s lo hi lo' : Nat} (h : Bl lt d s lo hi) (hl : lo ≤ lo') (ho : ∀ x,lo' ≤ x → e x = d x) : Bl lt e s lo' hi := fun i j h1 h2 h3 h4 => by
 rw [ho i h1,ho j (by omega)]
 exact h i j (by omega) h2 h3 h4
end
end Go.Proofs.YtjjnmefihdjglaaGreat
namespace Go.Proofs.YtjjnmefihdjglaaGreat
open Go.RowKit
structure ExtB (b : Nat) (w W : World) : Prop where
 os : W.os = w.os
 tape : W.tape = w.tape
 output : W.output = w.output
 size : w.heap.size ≤ W.heap.size
 blk : ∀ k,k < w.heap.size → k ≠ b → W.heap[k]? = w.heap[k]?
 row : ∀ c t fr,w.heap[b]? = some (.cells c t fr) → ∃ c',W.heap[b]? = some (.cells c' t fr) ∧ c'.size = c.size
theorem ExtB.refl (b : Nat) (w : World) : ExtB b w w := ⟨rfl,rfl,rfl,Nat.le_refl _,fun _ _ _ => rfl,fun c _ _ h => ⟨c,h,rfl⟩⟩
theorem ExtB.ofExt {b : Nat} {w W : World} (h : Ext w W) (hb : b < w.heap.size) : ExtB b w W :=
 ⟨h.1,h.2,h.3,h.size,fun _ hk _ => h.heap hk,fun c _ _ e => ⟨c,(h.heap hb).trans e,rfl⟩⟩
theorem ExtB.trans {b : Nat} {u v w : World} (h : ExtB b u v) (k : ExtB b v w) : ExtB b u w :=
 ⟨k.os.trans h.os,k.tape.trans h.tape,k.output.trans h.output,Nat.le_trans h.size k.size,fun j hj hb => (k.blk j (Nat.lt_of_lt_of_le hj h.size) hb).trans (h.blk j hj hb),fun c t fr e => by
   obtain ⟨c1,e1,s1⟩ := h.row c t fr e
   obtain ⟨c2,e2,s2⟩ := k.row c1 t fr e1
   exact ⟨c2,e2,s2.trans s1⟩⟩
theorem ExtB.ext {b : Nat} {u v w : World} (h : ExtB b u v) (k : Ext v w) (hb : b < u.heap.size) : ExtB b u w := h.trans (.ofExt k (Nat.lt_of_lt_of_le hb h.size))
theorem ExtB.drew {b : Nat} {u v : World} (h : ExtB b u v) : ExtB b u v.drew := ⟨h.os,h.tape,h.output,h.size,h.blk,h.row⟩
theorem ExtB.toExt {b : Nat} {u v w : World} (h : Ext u v) (k : ExtB b v w) (hb : u.heap.size ≤ b) : Ext u w :=
 ⟨k.os.trans h.1,k.tape.trans h.2,k.output.trans h.3,Nat.le_trans h.size k.size,fun j hj => (k.blk j (Nat.lt_of_lt_of_le hj h.size) (by omega)).trans (h.heap hj)⟩
theorem ExtB.cell {b : Nat} {u v : World} (h : ExtB b u v) {p : Addr} (hp : p.block < u.heap.size) (hn : p.block ≠ b) : v.cell? p = u.cell? p := by
 unfold World.cell?
 rw [h.blk _ hp hn]
theorem ExtB.setCell {b : Nat} {u v : World} (h : ExtB b u v) (o : Nat) (x : Value) : ExtB b u (v.setCell ⟨b,o,none⟩ x) := by
 refine ⟨h.os,h.tape,h.output,?_,fun j hj hb => ?_,fun c t fr e => ?_⟩
 ·unfold World.setCell; simp; exact h.size
 ·unfold World.setCell
  simp only [Array.getElem?_modify]
  rw [if_neg (by omega)]
  exact h.blk j hj hb
 ·obtain ⟨c1,e1,s1⟩ := h.row c t fr e
  refine ⟨c1.setIfInBounds o x,?_,by simp [s1]⟩
  unfold World.setCell
  simp only [Array.getElem?_modify,if_true]
  rw [e1]
  rfl
theorem ExtB.setCells {b : Nat} {u : World} : ∀ (vs : List Value) (o : Nat) {v : World},ExtB b u v → ExtB b u (v.setCells b o vs)
 | [],_,_,h => h
 | x :: r,o,_,h => ExtB.setCells r (o + 1) (h.setCell o x)
def setL (c : Array Value) : Nat → List Value → Array Value
 | _,[] => c
 | o,v :: r => setL (c.setIfInBounds o v) (o + 1) r
theorem setL_size : ∀ (vs : List Value) (o : Nat) (c : Array Value),(setL c o vs).size = c.size
 | [],_,_ => rfl
 | v :: r,o,c => by rw [setL,setL_size r]; simp
theorem setL_out : ∀ (vs : List Value) (o : Nat) (c : Array Value) (x : Nat),x < o ∨ o + vs.length ≤ x → (setL c o vs)[x]? = c[x]?
 | [],_,_,_,_ => rfl
 | v :: r,o,c,x,h => by
   simp only [List.length_cons] at h
   rw [setL,setL_out r (o + 1) _ x (by omega),Array.getElem?_setIfInBounds_ne (by omega)]
theorem setL_in : ∀ (vs : List Value) (o : Nat) (c : Array Value) (j : Nat),j < vs.length → o + vs.length ≤ c.size → (setL c o vs)[o + j]? = vs[j]?
 | v :: r,o,c,0,_,h => by
   simp only [List.length_cons] at h
   rw [setL,setL_out r (o + 1) _ _ (by omega),Nat.add_zero,Array.getElem?_setIfInBounds_self_of_lt (by omega)]
   rfl
 | v :: r,o,c,j + 1,hj,h => by
   simp only [List.length_cons] at h hj
   rw [setL,show o + (j + 1) = o + 1 + j from by omega,setL_in r (o + 1) _ j (by omega) (by simp; omega)]
   rfl
theorem heap_setCells (b : Nat) : ∀ (vs : List Value) (o : Nat) (w : World) (c : Array Value) (t : TypeId) (fr : Nat × Nat),w.heap[b]? = some (.cells c t fr) → (w.setCells b o vs).heap[b]? = some (.cells (setL c o vs) t fr)
 | [],_,_,_,_,_,h => h
 | v :: r,o,w,c,t,fr,h => by
   rw [World.setCells,setL]
   refine heap_setCells b r (o + 1) _ _ t fr ?_
   unfold World.setCell
   simp only [Array.getElem?_modify,if_true]
   rw [h]
   rfl
section
variable {E : Type} {K : Nat} {T : TypeId} {cs : E → List Value}
def RowE (K : Nat) (T : TypeId) (cs : E → List Value) (b n : Nat) (d : Nat → E) (W : World) : Prop :=
 ∃ c : Array Value,W.heap[b]? = some (.cells c T (0,0)) ∧ n * K ≤ c.size ∧ ∀ i,i < n → ∀ j,j < K → c[i * K + j]? = (cs (d i))[j]?
theorem RowE.lt {b n : Nat} {d : Nat → E} {W : World} (h : RowE K T cs b n d W) : b < W.heap.size := by
 obtain ⟨c,e,_⟩ := h
 exact (Array.getElem?_eq_some_iff.1 e).1
theorem RowE.ext {b n : Nat} {d : Nat → E} {W W' : World} (h : RowE K T cs b n d W) (x : Ext W W') : RowE K T cs b n d W' := by
 have hb := h.lt
 obtain ⟨c,e,k⟩ := h
 exact ⟨c,(x.heap hb).trans e,k⟩
theorem RowE.drew {b n : Nat} {d : Nat → E} {W : World} (h : RowE K T cs b n d W) : RowE K T cs b n d W.drew := h
theorem RowE.congr {b n : Nat} {d e : Nat → E} {W : World} (h : RowE K T cs b n d W) (k : ∀ i,i < n → e i = d i) : RowE K T cs b n e W := by
 obtain ⟨c,e1,e2,e3⟩ := h
 exact ⟨c,e1,e2,fun i hi j hj => by rw [k i hi]; exact e3 i hi j hj⟩
theorem RowE.cell {b n : Nat} {d : Nat → E} {W : World} (h : RowE K T cs b n d W) (i j : Nat) (v : Value) (hi : i < n) (hj : j < K) (hv : (cs (d i))[j]? = some v) : W.cell? ⟨b,i * K + j,none⟩ = some v := by
 obtain ⟨c,e1,e2,e3⟩ := h
 rw [Lib.cell_of_heap e1,e3 i hi j hj]
 exact hv
theorem RowE.free {b n : Nat} {d : Nat → E} {W : World} (h : RowE K T cs b n d W) (o : Nat) : W.frozen? ⟨b,o,none⟩ = false := by
 obtain ⟨c,e1,_⟩ := h
 unfold World.frozen?
 rw [e1]
 simp
theorem row_le {i n K : Nat} (h : i < n) : i * K + K ≤ n * K := by
 have := Nat.mul_le_mul_right K (show i + 1 ≤ n from h); rwa [Nat.add_mul,Nat.one_mul] at this
theorem RowE.set (hK : ∀ x,(cs x).length = K) {b n : Nat} {d : Nat → E} {W : World} (h : RowE K T cs b n d W) (i : Nat) (hi : i < n) (p : E) : RowE K T cs b n (fun x => if x = i then p else d x) (W.setCells b (i * K) (cs p)) := by
 obtain ⟨c,e1,e2,e3⟩ := h
 have hle := row_le (K := K) hi
 refine ⟨setL c (i * K) (cs p),heap_setCells b _ _ _ _ _ _ e1,by rw [setL_size]; exact e2,fun x hx j hj => ?_⟩
 dsimp only
 by_cases e : x = i
 ·subst e
  rw [if_pos rfl]
  exact setL_in _ _ _ _ (by rw [hK]; exact hj) (by rw [hK]; omega)
 ·rw [if_neg e,setL_out _ _ _ _ (by
   rw [hK]
   rcases Nat.lt_or_gt_of_ne e with h1 | h1
   ·have := row_le (K := K) h1; omega
   ·have := row_le (K := K) h1; omega)]
  exact e3 x hx j hj
theorem RowE.swap (hK : ∀ x,(cs x).length = K) {b n : Nat} {d : Nat → E} {W : World} (h : RowE K T cs b n d W) (i j : Nat) (hi : i < n) (hj : j < n) :
  RowE K T cs b n (swF d i j) ((W.setCells b (i * K) (cs (d j))).setCells b (j * K) (cs (d i))).drew := by
 refine ((h.set hK i hi (d j)).set hK j hj (d i)).congr fun x _ => ?_
 unfold swF
 by_cases e : x = j
 ·subst e
  by_cases e2 : x = i
  ·subst e2; simp
  ·simp [e2]
 ·simp [e]
theorem ExtB.swap {b : Nat} {u v : World} (h : ExtB b u v) (o1 o2 : Nat) (l1 l2 : List Value) : ExtB b u ((v.setCells b o1 l1).setCells b o2 l2).drew := ((h.setCells l1 o1).setCells l2 o2).drew
end
theorem exF_sw {α : Type} (d : Nat → α) (a b n lo hi : Nat) (h : a + n ≤ b) (h1 : lo ≤ a) (h2 : b + n ≤ hi) : ∀ i,i ≤ n → Sw lo hi d (exF d a b i)
 | 0,_ => by rw [exF_zero]; exact .refl
 | i + 1,hi' => by
   rw [← exF_step d a b i n h (by omega)]
   exact (exF_sw d a b n lo hi h h1 h2 i (by omega)).swap _ _ (by omega) (by omega) (by omega) (by omega)
theorem upF_sw {α : Type} (d : Nat → α) (a lo hi : Nat) (h1 : lo ≤ a) : ∀ k,a + k < hi → Sw lo hi d (upF d a (a + k))
 | 0,_ => by rw [Nat.add_zero,upF_start]; exact .refl
 | k + 1,h => by
   rw [← Nat.add_assoc,← upF_step d a (a + k) (by omega)]
   exact (upF_sw d a lo hi h1 k (by omega)).swap _ _ (by omega) (by omega) (by omega) (by omega)
theorem dnF_sw {α : Type} (d : Nat → α) (m lo hi : Nat) (h1 : m < hi) : ∀ k,lo + k ≤ m → Sw lo hi d (dnF d m (m - k))
 | 0,_ => by rw [Nat.sub_zero,dnF_start]; exact .refl
 | k + 1,h => by
   rw [← dnF_step d m (m - (k + 1)) (by omega),show m - (k + 1) + 1 = m - k from by omega]
   exact (dnF_sw d m lo hi h1 k (by omega)).swap _ _ (by omega) (by omega) (by omega) (by omega)
theorem Sw.all {α : Type} {S : α → Prop} {a b n : Nat} {d e : Nat → α} (h : Sw a b d e) (hb : b ≤ n) (k : ∀ i,i < n → S (d i)) : ∀ i,i < n → S (e i) := fun i hi => by
 by_cases q : a ≤ i ∧ i < b
 ·obtain ⟨y,_,y2,ey⟩ := h.src i q.1 q.2
  rw [ey]; exact k y (by omega)
 ·rw [h.out i (by omega)]; exact k i hi
end Go.Proofs.YtjjnmefihdjglaaGreat
