/- Where a text can't become a decimal's any more: plain (alias Tryd). -/
import Derived.Test.YtiancppdcfahaaaDoorDcE
namespace Go.Proofs.YtiancppdcfahaaaDoor
open Go.RowKit

theorem run_digs : ∀ (D r : List Nat), (∀ c ∈ D, digB c = true) → (∀ c m, r = c :: m → digB c = false) → runL (D ++ r) = D.length
  | [], r, _, hr => by
    cases r with
    | nil => rfl
    | cons c m =>
      show runL (c :: m) = 0
      unfold runL
      rw [hr c m rfl]; rfl
  | d :: D, r, h, hr => by
    show runL (d :: (D ++ r)) = D.length + 1
    rw [runL, if_pos (h d (by simp)), run_digs D r (fun x hx => h x (List.mem_cons_of_mem _ hx)) hr]
theorem run_take : ∀ l : List Nat, ∀ c ∈ l.take (runL l), digB c = true
  | [], c, h => by simp at h
  | d :: l, c, h => by
    rw [runL] at h
    by_cases hd : digB d = true
    · rw [if_pos hd, List.take_succ_cons, List.mem_cons] at h
      rcases h with rfl | h
      · exact hd
      · exact run_take l c h
    · rw [if_neg hd] at h; simp at h
theorem run_drop : ∀ l : List Nat, ∀ c m, l.drop (runL l) = c :: m → digB c = false
  | [], c, m, h => by simp at h
  | d :: l, c, m, h => by
    rw [runL] at h
    by_cases hd : digB d = true
    · rw [if_pos hd, List.drop_succ_cons] at h
      exact run_drop l c m h
    · rw [if_neg hd, List.drop_zero] at h
      injection h with h _
      rw [← h]; simpa using hd

/-- How a text begins: a sign, digits. -/
structure Heads (s : ByteArray) (sg D r : List Nat) : Prop where
  is : byL s = sg ++ (D ++ r)
  sign : sg = [] ∨ sg = [45]
  digs : ∀ c ∈ D, digB c = true
  stop : ∀ c m, r = c :: m → digB c = false
  none : sg = [] → (D ++ r).head? ≠ some 45

theorem Heads.pre {s : ByteArray} {sg D r : List Nat} (h : Heads s sg D r) : pFrom s = sg.length ∧ (byL s).drop sg.length = D ++ r ∧ runL (D ++ r) = D.length ∧ s.size = sg.length + D.length + r.length := by
  refine ⟨?_, ?_, run_digs D r h.digs h.stop, ?_⟩
  · unfold pFrom minusB
    rw [h.is]
    rcases h.sign with hs | hs
    · have hn := h.none hs
      subst hs
      rw [List.nil_append, if_neg (fun h2 => hn (by simpa using h2))]
      rfl
    · subst hs; rfl
  · rw [h.is, List.drop_left]
  · rw [← byL_length, h.is]; simp; omega

theorem parse_A {s : ByteArray} {sg r : List Nat} (h : Heads s sg [] r) : parseV s = ((0, 0), 11, (sg.length : Int)) := by
  obtain ⟨h1, h2, h3, h4⟩ := h.pre
  unfold parseV
  simp only [h1, h2, h3]
  rw [if_pos (by simp)]
theorem Heads.get {s : ByteArray} {sg D r : List Nat} (h : Heads s sg D r) : (byL s)[sg.length + D.length]? = r.head? := by
  rw [h.is, List.getElem?_append_right (by omega), List.getElem?_append_right (by omega)]
  rw [show sg.length + D.length - sg.length - D.length = 0 from by omega]
  cases r <;> rfl
theorem Heads.dropr {s : ByteArray} {sg D r : List Nat} (h : Heads s sg D r) (k : Nat) : (byL s).drop (sg.length + D.length + k) = r.drop k := by
  rw [h.is, Nat.add_assoc, ← List.drop_drop, List.drop_left, ← List.drop_drop, List.drop_left]
theorem parse_B {s : ByteArray} {sg D m : List Nat} {c : Nat} (h : Heads s sg D (c :: m)) (hD : D ≠ []) (hc : c ≠ 46) : parseV s = ((0, 0), 11, ((sg.length + D.length : Nat) : Int)) := by
  obtain ⟨h1, h2, h3, h4⟩ := h.pre
  have hg := h.get
  have hl := List.length_pos_iff.2 hD
  unfold parseV
  simp only [h1, h2, h3, hg]
  rw [if_neg (by omega), if_neg (by simpa using hc), if_pos (by rw [h4]; simp)]
theorem parse_C {s : ByteArray} {sg D : List Nat} (h : Heads s sg D []) (hD : D ≠ []) : (parseV s).2.1 ≠ 11 ∧ (parseV s).2.2 = 0 := by
  obtain ⟨h1, h2, h3, h4⟩ := h.pre
  have hg := h.get
  have hl := List.length_pos_iff.2 hD
  unfold parseV
  simp only [h1, h2, h3, hg]
  rw [if_neg (by omega), if_neg (by simp), if_neg (by rw [h4]; simp)]
  split
  · exact ⟨by show (0 : Int) ≠ 11; decide, rfl⟩
  · exact ⟨by show (12 : Int) ≠ 11; decide, rfl⟩
theorem parse_D {s : ByteArray} {sg D m : List Nat} (h : Heads s sg D (46 :: m)) (hD : D ≠ []) (hm : ∀ c k, m = c :: k → digB c = false) : parseV s = ((0, 0), 11, ((sg.length + D.length + 1 : Nat) : Int)) := by
  obtain ⟨h1, h2, h3, h4⟩ := h.pre
  have hg := h.get
  have hd := h.dropr 1
  have hl := List.length_pos_iff.2 hD
  have hr : runL m = 0 := run_digs [] m (fun c hc => absurd hc (by simp)) hm
  unfold parseV
  simp only [h1, h2, h3, hg, hd, List.drop_succ_cons, List.drop_zero, hr]
  rw [if_neg (by omega), if_pos (by simp), if_pos (by omega)]
theorem parse_E {s : ByteArray} {sg D E m : List Nat} {c : Nat} (h : Heads s sg D (46 :: (E ++ c :: m))) (hD : D ≠ []) (hE : E ≠ []) (he : ∀ c ∈ E, digB c = true) (hc : digB c = false) : parseV s = ((0, 0), 11, ((sg.length + D.length + 1 + E.length : Nat) : Int)) := by
  obtain ⟨h1, h2, h3, h4⟩ := h.pre
  have hg := h.get
  have hd := h.dropr 1
  have hl := List.length_pos_iff.2 hD
  have hl2 := List.length_pos_iff.2 hE
  have hr : runL (E ++ c :: m) = E.length := run_digs E _ he (fun x k hx => by injection hx with hx _; rw [← hx]; exact hc)
  unfold parseV
  simp only [h1, h2, h3, hg, hd, List.drop_succ_cons, List.drop_zero, hr]
  rw [if_neg (by omega), if_pos (by simp), if_neg (by omega), if_pos (by rw [h4]; simp; omega)]
theorem parse_F {s : ByteArray} {sg D E : List Nat} (h : Heads s sg D (46 :: E)) (hD : D ≠ []) (hE : E ≠ []) (he : ∀ c ∈ E, digB c = true) : (parseV s).2.1 ≠ 11 ∧ (parseV s).2.2 = 0 := by
  obtain ⟨h1, h2, h3, h4⟩ := h.pre
  have hg := h.get
  have hd := h.dropr 1
  have hl := List.length_pos_iff.2 hD
  have hl2 := List.length_pos_iff.2 hE
  have hr : runL E = E.length := by
    have := run_digs E [] he (fun x k hx => by cases hx)
    rwa [List.append_nil] at this
  unfold parseV
  simp only [h1, h2, h3, hg, hd, List.drop_succ_cons, List.drop_zero, hr]
  rw [if_neg (by omega), if_pos (by simp), if_neg (by omega), if_neg (by rw [h4]; simp; omega)]
  split
  · exact ⟨by show (0 : Int) ≠ 11; decide, rfl⟩
  · exact ⟨by show (12 : Int) ≠ 11; decide, rfl⟩

theorem heads_any (s : ByteArray) : ∃ sg D r, Heads s sg D r := by
  by_cases hm : (byL s).head? = some 45
  · obtain ⟨l, hl⟩ : ∃ l, byL s = 45 :: l := by
      cases hb : byL s with
      | nil => rw [hb] at hm; cases hm
      | cons c l => rw [hb] at hm; injection hm with hm; subst hm; exact ⟨l, rfl⟩
    exact ⟨[45], l.take (runL l), l.drop (runL l), by rw [List.take_append_drop, hl]; rfl, .inr rfl, run_take l, run_drop l, fun h => by cases h⟩
  · exact ⟨[], (byL s).take (runL (byL s)), (byL s).drop (runL (byL s)), by rw [List.take_append_drop]; rfl, .inl rfl, run_take _, run_drop _, fun _ => by rw [List.take_append_drop]; exact hm⟩

/-- A text that goes on behind the first so many bytes. -/
theorem byL_cut (s : ByteArray) (j : Nat) (t : ByteArray) : byL (s.extract 0 j ++ t) = (byL s).take j ++ byL t := by
  rw [byL_append, byL_extract, List.drop_zero, Nat.sub_zero]
theorem byL_pre (s : ByteArray) (j : Nat) : byL (s.extract 0 j) = (byL s).take j := by
  rw [byL_extract, List.drop_zero, Nat.sub_zero]
theorem head_pre {D r r' : List Nat} (hD : D ≠ []) : (D ++ r').head? = (D ++ r).head? := by
  cases D with
  | nil => exact absurd rfl hD
  | cons d D => rfl
theorem digB_48 : digB 48 = true := by decide

/-- What Parse tells of a text that is none: where, and what hangs on it. -/
structure BadAt (s : ByteArray) (j : Nat) : Prop where
  le : j ≤ s.size
  most : (parseV (s.extract 0 j)).2.1 ≠ 11 ∨ (parseV (s.extract 0 j ++ { data := #[48] })).2.1 ≠ 11
  more : j < s.size → ∀ t, parseV (s.extract 0 (j + 1) ++ t) = ((0, 0), 11, (j : Int))

theorem bad_facts (s : ByteArray) : ((parseV s).2.1 ≠ 11 ∧ (parseV s).2.2 = 0) ∨ ∃ j : Nat, parseV s = ((0, 0), 11, (j : Int)) ∧ BadAt s j := by
  obtain ⟨sg, D, r, h⟩ := heads_any s
  have hz := h.pre.2.2.2
  have hb := h.is
  by_cases hD : D = []
  · subst hD
    refine .inr ⟨sg.length, parse_A h, by omega, .inr ?_, fun hj t => ?_⟩
    · have : byL (s.extract 0 sg.length ++ { data := #[48] }) = sg ++ ([48] ++ []) := by
        rw [byL_cut, hb, List.take_left]; rfl
      refine (parse_C (sg := sg) (D := [48]) ⟨this, h.sign, fun c hc => ?_, fun c m hc => (by cases hc), fun _ => by simp⟩ (by simp)).1
      rw [List.mem_singleton.1 hc]; exact digB_48
    · cases r with
      | nil => simp at hz; omega
      | cons c m =>
        have : byL (s.extract 0 (sg.length + 1) ++ t) = sg ++ ([] ++ (c :: byL t)) := by
          rw [byL_cut, hb, List.take_append, List.take_of_length_le (by omega), show sg.length + 1 - sg.length = 1 from by omega]; simp
        exact parse_A (sg := sg) (r := c :: byL t) ⟨this, h.sign, fun x hx => (by cases hx), fun x k hx => by injection hx with hx _; rw [← hx]; exact h.stop c m rfl, fun hs => by have := h.none hs; simpa using this⟩
  · cases r with
    | nil => exact .inl (parse_C h hD)
    | cons c m =>
      by_cases hc : c = 46
      · subst hc
        obtain ⟨E, q, hm, hE, hq⟩ : ∃ E q, m = E ++ q ∧ (∀ c ∈ E, digB c = true) ∧ (∀ c k, q = c :: k → digB c = false) := ⟨m.take (runL m), m.drop (runL m), (List.take_append_drop _ _).symm, run_take m, run_drop m⟩
        subst hm
        have h46 : ∀ x k (q' : List Nat), 46 :: q' = x :: k → digB x = false := fun x k q' hx => by injection hx with hx _; rw [← hx]; decide
        by_cases hE0 : E = []
        · subst hE0
          refine .inr ⟨sg.length + D.length + 1, parse_D h hD hq, by simp at hz; omega, .inr ?_, fun hj t => ?_⟩
          · have : byL (s.extract 0 (sg.length + D.length + 1) ++ { data := #[48] }) = sg ++ (D ++ 46 :: [48]) := by
              rw [byL_cut, hb, List.take_append, List.take_of_length_le (by omega), show sg.length + D.length + 1 - sg.length = D.length + 1 from by omega, List.take_append, List.take_of_length_le (by omega), show D.length + 1 - D.length = 1 from by omega]
              simp; rfl
            refine (parse_F (sg := sg) (D := D) (E := [48]) ⟨this, h.sign, h.digs, fun x k hx => h46 x k _ hx, fun hs => by rw [head_pre hD]; exact h.none hs⟩ hD (by simp) (fun c hc => by rw [List.mem_singleton.1 hc]; exact digB_48)).1
          · cases q with
            | nil => simp at hz; omega
            | cons x q =>
              have : byL (s.extract 0 (sg.length + D.length + 1 + 1) ++ t) = sg ++ (D ++ 46 :: (x :: byL t)) := by
                rw [byL_cut, hb, List.take_append, List.take_of_length_le (by omega), show sg.length + D.length + 1 + 1 - sg.length = D.length + 2 from by omega, List.take_append, List.take_of_length_le (by omega), show D.length + 2 - D.length = 2 from by omega]
                simp
              exact parse_D (sg := sg) (D := D) (m := x :: byL t) ⟨this, h.sign, h.digs, fun x k hx => h46 x k _ hx, fun hs => by rw [head_pre hD]; exact h.none hs⟩ hD (fun y k hy => by injection hy with hy _; rw [← hy]; exact hq x q rfl)
        · cases q with
          | nil =>
            rw [List.append_nil] at h
            exact .inl (parse_F h hD hE0 hE)
          | cons x q =>
            have hx0 := hq x q rfl
            refine .inr ⟨sg.length + D.length + 1 + E.length, parse_E h hD hE0 hE hx0, by simp at hz; omega, .inl ?_, fun hj t => ?_⟩
            · have : byL (s.extract 0 (sg.length + D.length + 1 + E.length)) = sg ++ (D ++ 46 :: E) := by
                rw [byL_pre, hb, List.take_append, List.take_of_length_le (by omega), show sg.length + D.length + 1 + E.length - sg.length = D.length + (E.length + 1) from by omega, List.take_append, List.take_of_length_le (by omega), show D.length + (E.length + 1) - D.length = E.length + 1 from by omega, List.take_succ_cons, List.take_left]
              exact (parse_F (sg := sg) (D := D) (E := E) ⟨this, h.sign, h.digs, fun x k hx => h46 x k _ hx, fun hs => by rw [head_pre hD]; exact h.none hs⟩ hD hE0 hE).1
            · have : byL (s.extract 0 (sg.length + D.length + 1 + E.length + 1) ++ t) = sg ++ (D ++ 46 :: (E ++ x :: byL t)) := by
                rw [byL_cut, hb, List.take_append, List.take_of_length_le (by omega), show sg.length + D.length + 1 + E.length + 1 - sg.length = D.length + (E.length + 1 + 1) from by omega, List.take_append, List.take_of_length_le (by omega), show D.length + (E.length + 1 + 1) - D.length = E.length + 1 + 1 from by omega, List.take_succ_cons, List.take_append, List.take_of_length_le (by omega), show E.length + 1 - E.length = 1 from by omega]
                simp
              exact parse_E (sg := sg) (D := D) (E := E) (m := byL t) (c := x) ⟨this, h.sign, h.digs, fun x k hx => h46 x k _ hx, fun hs => by rw [head_pre hD]; exact h.none hs⟩ hD hE0 hE hx0
      · refine .inr ⟨sg.length + D.length, parse_B h hD hc, by simp at hz; omega, .inl ?_, fun hj t => ?_⟩
        · have : byL (s.extract 0 (sg.length + D.length)) = sg ++ (D ++ []) := by
            rw [byL_pre, hb, List.take_append, List.take_of_length_le (by omega), show sg.length + D.length - sg.length = D.length from by omega, List.take_left, List.append_nil]
          exact (parse_C (sg := sg) (D := D) ⟨this, h.sign, h.digs, fun x k hx => (by cases hx), fun hs => by rw [head_pre hD]; exact h.none hs⟩ hD).1
        · have : byL (s.extract 0 (sg.length + D.length + 1) ++ t) = sg ++ (D ++ c :: byL t) := by
            rw [byL_cut, hb, List.take_append, List.take_of_length_le (by omega), show sg.length + D.length + 1 - sg.length = D.length + 1 from by omega, List.take_append, List.take_of_length_le (by omega), show D.length + 1 - D.length = 1 from by omega]
            simp
          exact parse_B (sg := sg) (D := D) (m := byL t) (c := c) ⟨this, h.sign, h.digs, fun x k hx => by injection hx with hx _; rw [← hx]; exact h.stop c m rfl, fun hs => by rw [head_pre hD]; exact h.none hs⟩ hD hc
end Go.Proofs.YtiancppdcfahaaaDoor
