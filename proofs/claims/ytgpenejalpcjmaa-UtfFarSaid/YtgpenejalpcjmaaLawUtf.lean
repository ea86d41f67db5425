/- The plain law of the package utf: scalars' bytes are read as they are; texts joined; where a text can't become right any more. No program is imported. -/
import Derived.Test.YtgpenejalpcjmaaSpecUtf2
namespace Go.Proofs.Ytgpenejalpcjmaa

/-! ### one scalar -/
theorem head1 (c : Nat) : headN 1 c = c % 128 := rfl
theorem head2 (c : Nat) : headN 2 c = c % 32 := rfl
theorem head3 (c : Nat) : headN 3 c = c % 16 := rfl
theorem head4 (c : Nat) : headN 4 c = c % 8 := rfl
theorem sizeN_pos {c : Nat} (h : 1 < sizeN c) : 194 ≤ c ∧ c < 245 := by
  unfold sizeN at h
  (repeat' split at h) <;> omega

/-- What stands behind a whole scalar counts for nothing; and what stands behind a byte that can't be. -/
theorem frontGo_append (rem : Nat) : ∀ (k lo hi : Nat) (l m : List Nat) (r : Nat), ((frontGo rem k lo hi l r).2.2 = true ∨ (frontGo rem k lo hi l r).2.1 < k + l.length) → frontGo rem k lo hi (l ++ m) r = frontGo rem k lo hi l r := by
  induction rem with
  | zero => intro k lo hi l m r _; rw [frontGo_end, frontGo_end]
  | succ n ih =>
    intro k lo hi l m r h
    cases l with
    | nil => simp [frontGo] at h
    | cons d l =>
      rw [List.cons_append, frontGo, frontGo]
      rw [frontGo] at h
      split
      · rfl
      · rename_i hd
        rw [if_neg hd] at h
        refine ih _ _ _ _ _ _ ?_
        rcases h with h | h
        · exact .inl h
        · right; simp only [List.length_cons] at h; omega
theorem frontL_append (l m : List Nat) (h : (frontL l).2.2 = true ∨ (frontL l).2.1 < l.length) : frontL (l ++ m) = frontL l := by
  cases l with
  | nil => simp [frontL] at h
  | cons c l =>
    rw [List.cons_append, frontL, frontL]
    rw [frontL] at h
    split
    · rfl
    · rename_i hc
      rw [if_neg hc] at h
      refine frontGo_append _ _ _ _ _ _ _ ?_
      rcases h with h | h
      · exact .inl h
      · right; simp only [List.length_cons] at h; omega

/-- A scalar's bytes are read as it. -/
theorem frontL_enc (r : Nat) (h : isScalar r = true) (l : List Nat) : frontL (encL r ++ l) = (r, (encL r).length, true) := by
  have hr : r ≤ 1114111 ∧ ¬ (55296 ≤ r ∧ r ≤ 57343) := by simp [isScalar] at h; omega
  clear h
  by_cases h1 : r < 128
  · simp (disch := omega) only [encL, if_pos]
    simp (disch := omega) only [List.cons_append, List.nil_append, frontL, sizeN, if_pos, if_neg]
    simp only [Nat.sub_self, frontGo_end, head1, List.length_singleton]
    rw [Nat.mod_eq_of_lt (by omega)]
  · by_cases h2 : r < 2048
    · simp (disch := omega) only [encL, if_pos, if_neg]
      simp (disch := omega) only [List.cons_append, List.nil_append, frontL, sizeN, if_pos, if_neg]
      simp (disch := omega) only [frontGo, head2, loN, hiN, if_neg, List.length_cons, List.length_nil, Nat.zero_add]
      congr 1; omega
    · by_cases h3 : r < 65536
      · simp (disch := omega) only [encL, if_pos, if_neg]
        simp (disch := omega) only [List.cons_append, List.nil_append, frontL, sizeN, if_pos, if_neg]
        have hlo : ¬ (128 + r / 64 % 64 < loN (224 + r / 4096) ∨ hiN (224 + r / 4096) < 128 + r / 64 % 64) := by
          unfold loN hiN; (repeat' split) <;> omega
        simp (disch := omega) only [frontGo, head3, if_neg, List.length_cons, List.length_nil, Nat.zero_add]
        congr 1; omega
      · simp (disch := omega) only [encL, if_neg]
        simp (disch := omega) only [List.cons_append, List.nil_append, frontL, sizeN, if_pos, if_neg]
        have hlo : ¬ (128 + r / 4096 % 64 < loN (240 + r / 262144) ∨ hiN (240 + r / 262144) < 128 + r / 4096 % 64) := by
          unfold loN hiN; (repeat' split) <;> omega
        simp (disch := omega) only [frontGo, head4, if_neg, List.length_cons, List.length_nil, Nat.zero_add]
        congr 1; omega

theorem frontGo_cons {rem k lo hi r : Nat} {l : List Nat} (h : (frontGo (rem + 1) k lo hi l r).2.2 = true) : ∃ d m, l = d :: m ∧ lo ≤ d ∧ d ≤ hi ∧ frontGo (rem + 1) k lo hi l r = frontGo rem (k + 1) 128 191 m (r * 64 + d % 64) := by
  cases l with
  | nil => simp [frontGo] at h
  | cons d m =>
    by_cases hd : d < lo ∨ hi < d
    · rw [frontGo, if_pos hd] at h; cases h
    · exact ⟨d, m, rfl, by omega, by omega, by rw [frontGo, if_neg hd]⟩

/-- What is read as a scalar is its bytes. -/
theorem enc_frontL (l : List Nat) (hl : ∀ x ∈ l, x < 256) (h : (frontL l).2.2 = true) : isScalar (frontL l).1 = true ∧ encL (frontL l).1 = l.take (frontL l).2.1 := by
  cases l with
  | nil => simp [frontL] at h
  | cons c l =>
    have hc : c < 256 := hl c (by simp)
    obtain ⟨h1, h2, h3⟩ := frontL_whole h
    rw [h1, h3]
    rw [h3] at h
    rcases size_cases c with hs | hs | hs | hs | hs
    · omega
    · rw [hs] at h ⊢
      have hc : c < 128 := by unfold sizeN at hs; (repeat' split at hs) <;> omega
      simp only [Nat.sub_self, frontGo_end]
      have e : headN 1 c = c := by rw [head1, Nat.mod_eq_of_lt hc]
      rw [e]
      refine ⟨by simp [isScalar]; omega, ?_⟩
      rw [encL, if_pos hc]; rfl
    · rw [hs] at h ⊢
      have hc : 194 ≤ c ∧ c < 224 := by unfold sizeN at hs; (repeat' split at hs) <;> omega
      obtain ⟨d, m, rfl, d1, d2, e⟩ := frontGo_cons h
      rw [e]
      have d1' : 128 ≤ d := by unfold loN at d1; (repeat' split at d1) <;> omega
      have d2' : d ≤ 191 := by unfold hiN at d2; (repeat' split at d2) <;> omega
      simp only [frontGo_end, head2, List.take_succ_cons, List.take_zero, isScalar, decide_eq_true_eq]
      simp (disch := omega) only [encL, if_pos, if_neg]
      refine ⟨by omega, ?_⟩
      congr 1
      · omega
      · congr 1; omega
    · rw [hs] at h ⊢
      have hc : 224 ≤ c ∧ c < 240 := by unfold sizeN at hs; (repeat' split at hs) <;> omega
      obtain ⟨d, m, rfl, d1, d2, e⟩ := frontGo_cons h
      rw [e] at h ⊢
      obtain ⟨d', m, rfl, d3, d4, e⟩ := frontGo_cons h
      rw [e]
      have d1' : 128 ≤ d ∧ (c = 224 → 160 ≤ d) := by unfold loN at d1; (repeat' split at d1) <;> omega
      have d2' : d ≤ 191 ∧ (c = 237 → d ≤ 159) := by unfold hiN at d2; (repeat' split at d2) <;> omega
      simp only [frontGo_end, head3, List.take_succ_cons, List.take_zero, isScalar, decide_eq_true_eq]
      simp (disch := omega) only [encL, if_pos, if_neg]
      refine ⟨by omega, ?_⟩
      congr 1
      · omega
      · congr 1
        · omega
        · congr 1; omega
    · rw [hs] at h ⊢
      have hc : 240 ≤ c ∧ c < 245 := by unfold sizeN at hs; (repeat' split at hs) <;> omega
      obtain ⟨d, m, rfl, d1, d2, e⟩ := frontGo_cons h
      rw [e] at h ⊢
      obtain ⟨d', m, rfl, d3, d4, e⟩ := frontGo_cons h
      rw [e] at h ⊢
      obtain ⟨d'', m, rfl, d5, d6, e⟩ := frontGo_cons h
      rw [e]
      have d1' : 128 ≤ d ∧ (c = 240 → 144 ≤ d) := by unfold loN at d1; (repeat' split at d1) <;> omega
      have d2' : d ≤ 191 ∧ (c = 244 → d ≤ 143) := by unfold hiN at d2; (repeat' split at d2) <;> omega
      simp only [frontGo_end, head4, List.take_succ_cons, List.take_zero, isScalar, decide_eq_true_eq]
      simp (disch := omega) only [encL, if_neg]
      refine ⟨by omega, ?_⟩
      congr 1
      · omega
      · congr 1
        · omega
        · congr 1
          · omega
          · congr 1; omega

/-! ### texts -/
theorem walkGo_add : ∀ (f c p d q : Nat) (l : List Nat), walkGo f (c + d) (p + q) l = (if (walkGo f c p l).2 < 0 ∧ 0 ≤ (walkGo f c p l).1 then (((walkGo f c p l).1 + d : Int), (-1 : Int)) else (((-1 : Int)), ((walkGo f c p l).2 + q : Int))) := by
  intro f
  induction f with
  | zero =>
    intro c p d q l
    cases l with
    | nil => rw [walkGo_nil, walkGo_nil, if_pos (by simp)]; simp
    | cons x l => rw [walkGo, walkGo, if_neg (by simp)]; simp
  | succ f ih =>
    intro c p d q l
    cases l with
    | nil => rw [walkGo_nil, walkGo_nil, if_pos (by simp)]; simp
    | cons x l =>
      cases hb : (frontL (x :: l)).2.2 with
      | false => rw [walkGo_bad _ _ (by omega) hb, walkGo_bad _ _ (by omega) hb, if_neg (by simp)]; simp; omega
      | true =>
        rw [walkGo_ok _ _ (by omega) hb, walkGo_ok _ _ (by omega) hb]
        have := ih (c + 1) (p + (frontL (x :: l)).2.1) d q ((x :: l).drop (frontL (x :: l)).2.1)
        rw [show c + 1 + d = c + d + 1 from by omega, show p + (frontL (x :: l)).2.1 + q = p + q + (frontL (x :: l)).2.1 from by omega] at this
        exact this

theorem walkL_nil : walkL [] = (0, -1) := rfl
theorem countL_nil : countL [] = 0 := rfl
theorem badL_nil : badL [] = -1 := rfl
theorem walkGo_good : ∀ (f c p : Nat) (l : List Nat), l.length ≤ f → (walkGo f c p l).2 < 0 → (walkGo f c p l).2 = -1 ∧ (c : Int) ≤ (walkGo f c p l).1 := by
  intro f
  induction f with
  | zero =>
    intro c p l hl h
    obtain rfl : l = [] := List.length_eq_zero_iff.1 (by omega)
    rw [walkGo_nil]; simp
  | succ f ih =>
    intro c p l hl h
    cases l with
    | nil => rw [walkGo_nil]; simp
    | cons x l =>
      cases hb : (frontL (x :: l)).2.2 with
      | false => rw [walkGo_bad _ _ (by omega) hb] at h; simp at h; omega
      | true =>
        have h1 := (frontL_bounds (x :: l)).2.2 hb
        rw [walkGo_ok _ _ (by omega) hb, Nat.add_sub_cancel] at h ⊢
        have := ih (c + 1) _ _ (by rw [List.length_drop]; simp only [List.length_cons] at hl ⊢; omega) h
        omega
/-- One scalar ahead of a text. -/
theorem walkL_front (l : List Nat) (h : (frontL l).2.2 = true) :
    walkL l = (if badL (l.drop (frontL l).2.1) < 0 then ((countL (l.drop (frontL l).2.1) + 1 : Int), (-1 : Int)) else ((-1 : Int), (badL (l.drop (frontL l).2.1) + (frontL l).2.1 : Int))) := by
  have hb := frontL_bounds l
  have h1 := hb.2.2 h
  cases l with
  | nil => simp [frontL] at h
  | cons x l =>
    unfold walkL
    rw [walkGo_ok _ _ (by simp) h]
    rw [walkGo_fuel _ _ ((x :: l).drop (frontL (x :: l)).2.1).length _ _ _ (Nat.le_refl _) (by rw [List.length_drop]; simp only [List.length_cons]; omega) (Nat.le_refl _)]
    rw [walkGo_add _ 0 0 1 (frontL (x :: l)).2.1]
    show _ = if (walkL _).2 < 0 then (((walkL _).1 + 1 : Int), (-1 : Int)) else ((-1 : Int), ((walkL _).2 + _ : Int))
    show (if (walkL ((x :: l).drop (frontL (x :: l)).2.1)).2 < 0 ∧ 0 ≤ (walkL ((x :: l).drop (frontL (x :: l)).2.1)).1 then _ else _) = _
    by_cases hlt : (walkL ((x :: l).drop (frontL (x :: l)).2.1)).2 < 0
    · have := walkGo_good _ 0 0 _ (Nat.le_refl _) hlt
      rw [if_pos hlt, if_pos ⟨hlt, this.2⟩]; rfl
    · rw [if_neg hlt, if_neg (fun h => hlt h.1)]; rfl
theorem walkL_stop (l : List Nat) (hne : l ≠ []) (h : (frontL l).2.2 = false) : walkL l = ((-1 : Int), ((frontL l).2.1 : Int)) := by
  cases l with
  | nil => exact absurd rfl hne
  | cons x l =>
    unfold walkL
    rw [walkGo_bad _ _ (by simp) h]; simp

theorem frontGo_take : ∀ (rem k lo hi : Nat) (l : List Nat) (r : Nat), (frontGo rem k lo hi l r).2.2 = true → frontGo rem k lo hi (l.take rem) r = frontGo rem k lo hi l r
  | 0, k, lo, hi, l, r, _ => by rw [frontGo_end, frontGo_end]
  | rem + 1, k, lo, hi, [], r, h => by simp [frontGo] at h
  | rem + 1, k, lo, hi, d :: l, r, h => by
    rw [List.take_succ_cons, frontGo, frontGo]
    rw [frontGo] at h
    split
    · rfl
    · rename_i hd
      rw [if_neg hd] at h
      exact frontGo_take rem _ _ _ l _ h
theorem front_take (l : List Nat) (h : (frontL l).2.2 = true) : (frontL (l.take (frontL l).2.1)).2.2 = true ∧ (frontL (l.take (frontL l).2.1)).2.1 = (frontL l).2.1 := by
  cases l with
  | nil => simp [frontL] at h
  | cons c l =>
    obtain ⟨h1, h2, h3⟩ := frontL_whole h
    have e : frontL ((c :: l).take (frontL (c :: l)).2.1) = frontL (c :: l) := by
      rw [h1, show sizeN c = (sizeN c - 1) + 1 from by omega, List.take_succ_cons, h3, frontL, if_neg (by omega)]
      rw [h3] at h
      rw [frontGo_take _ _ _ _ _ _ h]
    rw [e]; exact ⟨h, rfl⟩

/-- Induction over a text, scalar by scalar. -/
theorem text_ind {P : List Nat → Prop} (h0 : P []) (h1 : ∀ l, l ≠ [] → (frontL l).2.2 = false → P l) (h2 : ∀ l, (frontL l).2.2 = true → P (l.drop (frontL l).2.1) → P l) : ∀ l, P l := by
  have key : ∀ n l, l.length ≤ n → P l := by
    intro n
    induction n with
    | zero => intro l hl; obtain rfl : l = [] := List.length_eq_zero_iff.1 (by omega); exact h0
    | succ n ih =>
      intro l hl
      by_cases hne : l = []
      · subst hne; exact h0
      · cases hb : (frontL l).2.2 with
        | false => exact h1 l hne hb
        | true =>
          have := (frontL_bounds l).2.2 hb
          exact h2 l hb (ih _ (by rw [List.length_drop]; omega))
  exact fun l => key l.length l (Nat.le_refl _)

theorem badL_front {l : List Nat} (h : (frontL l).2.2 = true) : badL l = if badL (l.drop (frontL l).2.1) < 0 then -1 else badL (l.drop (frontL l).2.1) + (frontL l).2.1 := by
  unfold badL
  rw [walkL_front l h]
  unfold badL
  split <;> rfl
theorem countL_front {l : List Nat} (h : (frontL l).2.2 = true) : countL l = if badL (l.drop (frontL l).2.1) < 0 then countL (l.drop (frontL l).2.1) + 1 else -1 := by
  unfold countL
  rw [walkL_front l h]
  unfold badL countL
  split <;> rfl
theorem badL_stop {l : List Nat} (hne : l ≠ []) (h : (frontL l).2.2 = false) : badL l = (frontL l).2.1 := by rw [badL, walkL_stop l hne h]
theorem countL_stop {l : List Nat} (hne : l ≠ []) (h : (frontL l).2.2 = false) : countL l = -1 := by rw [countL, walkL_stop l hne h]

theorem badL_range (l : List Nat) : -1 ≤ badL l ∧ badL l ≤ l.length := by
  induction l using text_ind with
  | h0 => rw [badL_nil]; simp
  | h1 l hne h => rw [badL_stop hne h]; have := frontL_bounds l; omega
  | h2 l h ih =>
    have hb := frontL_bounds l
    rw [badL_front h]
    rw [List.length_drop] at ih
    split <;> omega
theorem bad_neg {l : List Nat} (h : badL l < 0) : badL l = -1 := by have := badL_range l; omega
theorem count_iff (l : List Nat) : (badL l < 0 → 0 ≤ countL l) ∧ (0 ≤ badL l → countL l = -1) := by
  constructor
  · exact fun h => (walkGo_good _ 0 0 _ (Nat.le_refl _) h).2
  · exact fun h => walkGo_neg _ _ _ _ h
theorem count_range (l : List Nat) : -1 ≤ countL l := by
  have := count_iff l
  by_cases h : badL l < 0
  · have := this.1 h; omega
  · have := this.2 (by omega); omega

/-- A right text, and another one behind it. -/
theorem join_good (a b : List Nat) : badL a < 0 → badL (a ++ b) = (if badL b < 0 then -1 else badL b + a.length) ∧ (badL b < 0 → countL (a ++ b) = countL a + countL b) := by
  induction a using text_ind with
  | h0 =>
    intro _
    refine ⟨?_, fun _ => by rw [countL_nil]; simp⟩
    simp only [List.nil_append, List.length_nil]
    split
    · exact bad_neg (by assumption)
    · simp
  | h1 l hne h => intro hb; rw [badL_stop hne h] at hb; omega
  | h2 l h ih =>
    intro hb
    have hl := frontL_bounds l
    have he := frontL_append l b (.inl h)
    have h' : (frontL (l ++ b)).2.2 = true := by rw [he]; exact h
    have hd : (l ++ b).drop (frontL l).2.1 = l.drop (frontL l).2.1 ++ b := List.drop_append_of_le_length hl.1
    rw [badL_front h] at hb
    have hb' : badL (l.drop (frontL l).2.1) < 0 := by split at hb <;> omega
    have ih := ih hb'
    rw [badL_front h', countL_front h', countL_front h, he, hd]
    rw [ih.1, if_pos hb']
    rw [List.length_drop]
    constructor
    · by_cases hbb : badL b < 0
      · rw [if_pos hbb, if_pos hbb, if_pos (by decide)]
      · rw [if_neg hbb, if_neg hbb, if_neg (by omega)]; omega
    · intro hbb
      rw [if_pos hbb, if_pos (by decide), ih.2 hbb]; omega
/-- Where a text can't become right any more hangs on its beginning alone. -/
theorem join_bad (a b : List Nat) : 0 ≤ badL a → badL a < a.length → badL (a ++ b) = badL a := by
  induction a using text_ind with
  | h0 => intro h; rw [badL_nil] at h; omega
  | h1 l hne h =>
    intro _ h2
    rw [badL_stop hne h] at h2 ⊢
    have he := frontL_append l b (.inr (by omega))
    rw [badL_stop (by simp [hne]) (by rw [he]; exact h), he]
  | h2 l h ih =>
    intro h1 h2
    have hl := frontL_bounds l
    have he := frontL_append l b (.inl h)
    have h' : (frontL (l ++ b)).2.2 = true := by rw [he]; exact h
    have hd : (l ++ b).drop (frontL l).2.1 = l.drop (frontL l).2.1 ++ b := List.drop_append_of_le_length hl.1
    rw [badL_front h] at h1 h2
    rw [badL_front h', badL_front h, he, hd]
    rw [List.length_drop] at ih
    by_cases hb : badL (l.drop (frontL l).2.1) < 0
    · rw [if_pos hb] at h1; omega
    · rw [if_neg hb] at h1 h2
      rw [ih (by omega) (by omega), if_neg hb]
theorem join_open (a b : List Nat) (h : 0 ≤ badL a) : badL a = a.length ∨ badL (a ++ b) = badL a := by
  have := badL_range a
  by_cases he : badL a = a.length
  · exact .inl he
  · exact .inr (join_bad a b h (by omega))

/-! ### ends with which a beginning becomes right -/
/-- The ends that are tried. -/
def closers : List (List Nat) := [[], [128], [160], [144], [128, 128], [160, 128], [144, 128], [128, 128, 128], [144, 128, 128]]
theorem badL_whole {l : List Nat} (h : (frontL l).2.2 = true) (hd : (frontL l).2.1 = l.length) : badL l = -1 := by
  rw [badL_front h, hd, List.drop_length, badL_nil, if_pos (by decide)]
theorem frontGo_any : ∀ (rem k lo hi : Nat) (l : List Nat) (r : Nat), (∀ x ∈ l.head?, lo ≤ x ∧ x ≤ hi) → (∀ x ∈ l.tail, 128 ≤ x ∧ x ≤ 191) → l.length = rem → (frontGo rem k lo hi l r).2 = (k + rem, true)
  | 0, k, lo, hi, l, r, _, _, _ => by rw [frontGo_end]; rfl
  | rem + 1, k, lo, hi, [], r, _, _, h => by simp at h
  | rem + 1, k, lo, hi, d :: l, r, h1, h2, h3 => by
    have hd := h1 d (by simp)
    rw [frontGo, if_neg (by omega)]
    have := frontGo_any rem (k + 1) 128 191 l (r * 64 + d % 64) (fun x hx => h2 x (by
      cases l with
      | nil => simp at hx
      | cons y l => simp only [List.head?_cons, Option.mem_some_iff] at hx; subst hx; simp)) (fun x hx => h2 x (by
      cases l with
      | nil => simp at hx
      | cons y l => simp only [List.tail_cons] at hx ⊢; exact List.mem_cons_of_mem _ hx)) (by simpa using h3)
    rw [this]; congr 1; omega
theorem frontL_made {c : Nat} {l : List Nat} (hs : sizeN c ≠ 0) (h1 : ∀ x ∈ l.head?, loN c ≤ x ∧ x ≤ hiN c) (h2 : ∀ x ∈ l.tail, 128 ≤ x ∧ x ≤ 191) (h3 : l.length + 1 = sizeN c) : badL (c :: l) = -1 := by
  have e : (frontL (c :: l)).2 = (sizeN c, true) := by
    rw [frontL, if_neg hs, frontGo_any _ _ _ _ _ _ h1 h2 (by omega)]; congr 1; omega
  exact badL_whole (by rw [e]) (by rw [e]; simp; omega)
theorem lo_cases (c : Nat) (h : 1 < sizeN c) : (sizeN c = 2 ∧ loN c = 128 ∧ hiN c = 191) ∨ (sizeN c = 3 ∧ ((loN c = 128 ∧ 159 ≤ hiN c) ∨ (loN c = 160 ∧ hiN c = 191))) ∨ (sizeN c = 4 ∧ ((loN c = 128 ∧ 143 ≤ hiN c) ∨ (loN c = 144 ∧ hiN c = 191))) := by
  unfold sizeN at h ⊢
  unfold loN hiN
  (repeat' split at h) <;> first | omega | skip
  all_goals (repeat' split) <;> omega

/-- Where a scalar's bytes break off, what was read of them can be made whole. -/
theorem part_closes (l : List Nat) (hne : l ≠ []) (h : (frontL l).2.2 = false) : ∃ t ∈ closers, badL (l.take (frontL l).2.1 ++ t) = -1 := by
  cases l with
  | nil => exact absurd rfl hne
  | cons c l =>
    by_cases hs : sizeN c = 0
    · rw [frontL, if_pos hs]
      exact ⟨[], by simp [closers], by rw [List.take_zero]; rfl⟩
    · rw [frontL, if_neg hs] at h ⊢
      by_cases hs1 : sizeN c = 1
      · rw [hs1, Nat.sub_self, frontGo_end] at h; cases h
      have hlo := lo_cases c (by omega)
      obtain ⟨n, hn⟩ : ∃ n, sizeN c = n + 2 := ⟨sizeN c - 2, by omega⟩
      rw [show sizeN c - 1 = n + 1 from by omega] at h ⊢
      -- no byte behind the first one
      have one : ∃ t ∈ closers, badL ([c] ++ t) = -1 := by
        rcases hlo with ⟨a, b, d⟩ | ⟨a, ⟨b, d⟩ | ⟨b, d⟩⟩ | ⟨a, ⟨b, d⟩ | ⟨b, d⟩⟩
        · exact ⟨[128], by simp [closers], frontL_made hs (by simp; omega) (by simp) (by simp; omega)⟩
        · exact ⟨[128, 128], by simp [closers], frontL_made hs (by simp; omega) (by simp) (by simp; omega)⟩
        · exact ⟨[160, 128], by simp [closers], frontL_made hs (by simp; omega) (by simp) (by simp; omega)⟩
        · exact ⟨[128, 128, 128], by simp [closers], frontL_made hs (by simp; omega) (by simp) (by simp; omega)⟩
        · exact ⟨[144, 128, 128], by simp [closers], frontL_made hs (by simp; omega) (by simp) (by simp; omega)⟩
      cases l with
      | nil => rw [frontGo]; exact one
      | cons d l =>
        by_cases hd : d < loN c ∨ hiN c < d
        · rw [frontGo, if_pos hd]; exact one
        · rw [frontGo, if_neg hd] at h ⊢
          cases n with
          | zero => rw [frontGo_end] at h; cases h
          | succ n =>
            have two : ∃ t ∈ closers, badL ([c, d] ++ t) = -1 := by
              rcases (show sizeN c = 3 ∨ sizeN c = 4 by omega) with a | a
              · exact ⟨[128], by simp [closers], frontL_made hs (by simp; omega) (by simp) (by simp; omega)⟩
              · exact ⟨[128, 128], by simp [closers], frontL_made hs (by simp; omega) (by simp) (by simp; omega)⟩
            cases l with
            | nil => rw [frontGo]; exact two
            | cons d' l =>
              by_cases hd' : d' < 128 ∨ 191 < d'
              · rw [frontGo, if_pos hd']; exact two
              · rw [frontGo, if_neg hd'] at h ⊢
                cases n with
                | zero => rw [frontGo_end] at h; cases h
                | succ n =>
                  have h4 : sizeN c = 4 := by omega
                  obtain rfl : n = 0 := by omega
                  have three : ∃ t ∈ closers, badL ([c, d, d'] ++ t) = -1 :=
                    ⟨[128], by simp [closers], frontL_made hs (by simp; omega) (by simp; omega) (by simp; omega)⟩
                  cases l with
                  | nil => rw [frontGo]; exact three
                  | cons d'' l =>
                    by_cases hd'' : d'' < 128 ∨ 191 < d''
                    · rw [frontGo, if_pos hd'']; exact three
                    · rw [frontGo, if_neg hd'', frontGo_end] at h; cases h

/-- Ahead of the place from which on a text can't become right any more, one of the ends makes it right. -/
theorem closes (l : List Nat) : 0 ≤ badL l → ∃ t ∈ closers, badL (l.take (badL l).toNat ++ t) = -1 := by
  induction l using text_ind with
  | h0 => intro h; rw [badL_nil] at h; omega
  | h1 l hne h => intro _; rw [badL_stop hne h]; simp only [Int.toNat_natCast]; exact part_closes l hne h
  | h2 l h ih =>
    intro hb
    have hl := frontL_bounds l
    rw [badL_front h] at hb ⊢
    by_cases hlt : badL (l.drop (frontL l).2.1) < 0
    · rw [if_pos hlt] at hb; omega
    · rw [if_neg hlt] at hb ⊢
      obtain ⟨t, ht, he⟩ := ih (by omega)
      refine ⟨t, ht, ?_⟩
      have e : l.take (badL (l.drop (frontL l).2.1) + (frontL l).2.1).toNat = l.take (frontL l).2.1 ++ (l.drop (frontL l).2.1).take (badL (l.drop (frontL l).2.1)).toNat := by
        rw [show (badL (l.drop (frontL l).2.1) + (frontL l).2.1).toNat = (frontL l).2.1 + (badL (l.drop (frontL l).2.1)).toNat from by omega, List.take_add]
      have hw : (frontL (l.take (frontL l).2.1)).2.2 = true ∧ (frontL (l.take (frontL l).2.1)).2.1 = (frontL l).2.1 := front_take l h
      have hg : badL (l.take (frontL l).2.1) = -1 := badL_whole hw.1 (by rw [hw.2, List.length_take]; omega)
      rw [e, List.append_assoc, (join_good _ _ (by omega)).1, he, if_pos (by decide)]
theorem count_le (l : List Nat) : countL l ≤ l.length := by
  induction l using text_ind with
  | h0 => rw [countL_nil]; simp
  | h1 l hne h => rw [countL_stop hne h]; omega
  | h2 l h ih =>
    have hb := frontL_bounds l
    have := hb.2.2 h
    rw [List.length_drop] at ih
    rw [countL_front h]
    split <;> omega
theorem frontGo_short (rem : Nat) : ∀ (k lo hi : Nat) (l : List Nat) (r : Nat), (frontGo rem k lo hi l r).2.2 = false → (frontGo rem k lo hi l r).2.1 < k + rem := by
  induction rem with
  | zero => intro k lo hi l r h; rw [frontGo_end] at h; cases h
  | succ n ih =>
    intro k lo hi l r h
    cases l with
    | nil => simp [frontGo]
    | cons d l =>
      rw [frontGo] at h ⊢
      split
      · simp
      · rename_i hd
        rw [if_neg hd] at h
        have := ih _ _ _ _ _ h
        omega
theorem frontL_short (l : List Nat) (h : (frontL l).2.2 = false) : (frontL l).2.1 ≤ 3 := by
  cases l with
  | nil => simp [frontL]
  | cons c l =>
    rw [frontL] at h ⊢
    split
    · simp
    · rename_i hc
      rw [if_neg hc] at h
      have := frontGo_short _ _ _ _ _ _ h
      have := size_cases c
      omega
theorem bad_enc (n : Nat) (h : isScalar n = true) : badL (encL n) = -1 ∧ countL (encL n) = 1 := by
  have e := frontL_enc n h []
  rw [List.append_nil] at e
  have hw : (frontL (encL n)).2.2 = true := by rw [e]
  have hl : (frontL (encL n)).2.1 = (encL n).length := by rw [e]
  exact ⟨badL_whole hw hl, by rw [countL_front hw, hl, List.drop_length, badL_nil, countL_nil]; rfl⟩
theorem encL_len (n : Nat) : (encL n).length ≤ 4 ∧ 1 ≤ (encL n).length := by
  unfold encL; (repeat' split) <;> simp

/-! ### strings -/
theorem scalar_nat {r : Int} (h : isScalar r = true) : ∃ n : Nat, r = n ∧ n ≤ 1114111 ∧ isScalar n = true := by
  have h' : 0 ≤ r ∧ r ≤ 1114111 := by simp [isScalar] at h; omega
  obtain ⟨n, rfl⟩ := Int.eq_ofNat_of_zero_le h'.1
  exact ⟨n, rfl, by omega, h⟩
theorem bs_encS (n : Nat) (h : isScalar n = true) : bs (encS n) = encL n := by
  have hn : n ≤ 1114111 := by simp [isScalar] at h; omega
  unfold encS
  rw [if_pos h, Int.toNat_natCast, bs_ofL (encL_lt n hn)]
theorem size_encS (r : Int) : (encS r).size ≤ 4 := by
  cases h : isScalar r with
  | false => unfold encS; rw [if_neg (by simp [h])]; decide
  | true =>
    obtain ⟨n, rfl, _, h⟩ := scalar_nat h
    rw [← length_bs, bs_encS n h]; exact (encL_len n).1
theorem next_enc (n : Nat) (h : isScalar n = true) (a c : ByteArray) : nextS (a ++ encS n ++ c) a.size = (n, (encS n).size, true) := by
  have hl := encL_len n
  have hs : (encS n).size = (encL n).length := by rw [← length_bs, bs_encS n h]
  have e : (bs (a ++ encS n ++ c)).drop a.size = encL n ++ bs c := by
    rw [bs_append, bs_append, bs_encS n h, List.append_assoc, ← length_bs, List.drop_left]
  have hz : (a ++ encS n ++ c).size = a.size + (encS n).size + c.size := by
    rw [← length_bs, bs_append, bs_append]; simp [length_bs]; omega
  unfold nextS
  rw [if_neg (by rw [hz]; omega), Int.toNat_natCast, e, frontL_enc n h, if_pos rfl, hs]
theorem bs_extract (s : ByteArray) (a b : Nat) : bs (s.extract a b) = ((bs s).drop a).take (b - a) := by
  simp only [bs, ByteArray.data_extract, Array.toList_extract, List.extract_eq_take_drop, List.map_take, List.map_drop]
theorem enc_cut (s : ByteArray) (p : Nat) (h : (frontL ((bs s).drop p)).2.2 = true) :
    isScalar (frontL ((bs s).drop p)).1 = true ∧ encS (frontL ((bs s).drop p)).1 = s.extract p (p + (frontL ((bs s).drop p)).2.1) := by
  have := enc_frontL ((bs s).drop p) (fun x hx => bs_lt s x (List.mem_of_mem_drop hx)) h
  refine ⟨this.1, bs_inj ?_⟩
  rw [bs_encS _ this.1, this.2, bs_extract, Nat.add_sub_cancel_left]
end Go.Proofs.Ytgpenejalpcjmaa
