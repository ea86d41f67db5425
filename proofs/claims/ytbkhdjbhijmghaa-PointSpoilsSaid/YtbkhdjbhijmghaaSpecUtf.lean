/- Plain functions for the package utf: what a first byte begins, the scalar at the head of a list of bytes, how far a text goes. No program is imported. -/
namespace Go.Proofs.Ytbkhdjbhijmghaa

/-- How many bytes a first byte begins; 0: none. -/
def sizeN (c : Nat) : Nat := if c < 128 then 1 else if c < 194 then 0 else if c < 224 then 2 else if c < 240 then 3 else if c < 245 then 4 else 0
def loN (c : Nat) : Nat := if c = 224 then 160 else if c = 240 then 144 else 128
def hiN (c : Nat) : Nat := if c = 237 then 159 else if c = 244 then 143 else 191
/-- What of the first byte is the scalar's. -/
def headN (n c : Nat) : Nat := if n = 1 then c % 128 else if n = 2 then c % 32 else if n = 3 then c % 16 else c % 8

/-- The rest of a scalar's bytes: rem are lacking, k were read, the number so far. -/
def frontGo : (rem k lo hi : Nat) → List Nat → Nat → Nat × Nat × Bool
  | 0, k, _, _, _, r => (r, k, true)
  | _ + 1, k, _, _, [], _ => (0, k, false)
  | rem + 1, k, lo, hi, d :: l, r => if d < lo ∨ hi < d then (0, k, false) else frontGo rem (k + 1) 128 191 l (r * 64 + d % 64)

/-- The scalar at the head of a list, how many bytes it has, and whether it is whole. -/
def frontL : List Nat → Nat × Nat × Bool
  | [] => (0, 0, false)
  | c :: l => if sizeN c = 0 then (0, 0, false) else frontGo (sizeN c - 1) 1 (loN c) (hiN c) l (headN (sizeN c) c)

/-- The bytes of a string, as numbers. -/
def bs (s : ByteArray) : List Nat := s.data.toList.map UInt8.toNat

theorem length_bs (s : ByteArray) : (bs s).length = s.size := by simp [bs]
theorem bs_lt (s : ByteArray) : ∀ x ∈ bs s, x < 256 := by
  intro x hx
  simp only [bs, List.mem_map] at hx
  obtain ⟨u, _, rfl⟩ := hx
  exact u.toNat_lt
theorem drop_bs (s : ByteArray) (i : Nat) (h : i < s.size) : (bs s).drop i = s[i].toNat :: (bs s).drop (i + 1) := by
  have hl : i < (bs s).length := by rw [length_bs]; exact h
  rw [List.drop_eq_getElem_cons hl]
  simp [bs]; rfl
theorem drop_bs_nil (s : ByteArray) (i : Nat) (h : s.size ≤ i) : (bs s).drop i = [] := List.drop_eq_nil_of_le (by rw [length_bs]; exact h)
theorem bs_inj {s t : ByteArray} (h : bs s = bs t) : s = t := by
  obtain ⟨⟨l⟩⟩ := s; obtain ⟨⟨m⟩⟩ := t
  simp only [bs] at h
  have : l = m := List.map_inj_right (f := UInt8.toNat) (fun a b e => UInt8.toNat_inj.1 e) |>.1 h
  rw [this]
theorem bs_append (s t : ByteArray) : bs (s ++ t) = bs s ++ bs t := by simp [bs]

theorem size_cases (c : Nat) : sizeN c = 0 ∨ sizeN c = 1 ∨ sizeN c = 2 ∨ sizeN c = 3 ∨ sizeN c = 4 := by
  unfold sizeN; (repeat' split) <;> simp

theorem frontGo_end (k lo hi : Nat) (l : List Nat) (r : Nat) : frontGo 0 k lo hi l r = (r, k, true) := by cases l <;> rfl
theorem frontGo_nil {rem : Nat} (h : 0 < rem) (k lo hi r : Nat) : frontGo rem k lo hi [] r = (0, k, false) := by
  cases rem with
  | zero => omega
  | succ n => rfl
theorem frontGo_bad {rem : Nat} (h : 0 < rem) (k lo hi r : Nat) {d : Nat} (l : List Nat) (hd : d < lo ∨ hi < d) : frontGo rem k lo hi (d :: l) r = (0, k, false) := by
  cases rem with
  | zero => omega
  | succ n => rw [frontGo, if_pos hd]
theorem frontGo_ok {rem : Nat} (h : 0 < rem) (k lo hi r : Nat) {d : Nat} (l : List Nat) (hd : lo ≤ d ∧ d ≤ hi) : frontGo rem k lo hi (d :: l) r = frontGo (rem - 1) (k + 1) 128 191 l (r * 64 + d % 64) := by
  cases rem with
  | zero => omega
  | succ n => rw [frontGo, if_neg (by omega)]; rfl

theorem frontGo_bounds (rem : Nat) : ∀ (k lo hi : Nat) (l : List Nat) (r : Nat), k ≤ (frontGo rem k lo hi l r).2.1 ∧ (frontGo rem k lo hi l r).2.1 ≤ k + l.length ∧ (frontGo rem k lo hi l r).2.1 ≤ k + rem ∧ ((frontGo rem k lo hi l r).2.2 = true → (frontGo rem k lo hi l r).2.1 = k + rem) := by
  induction rem with
  | zero => intro k lo hi l r; rw [frontGo_end]; simp
  | succ n ih =>
    intro k lo hi l r
    cases l with
    | nil => simp [frontGo]
    | cons d l =>
      rw [frontGo]
      split
      · simp
      · have := ih (k + 1) 128 191 l (r * 64 + d % 64)
        simp only [List.length_cons]
        refine ⟨by omega, by omega, by omega, fun h => by have := this.2.2.2 h; omega⟩
theorem frontL_bounds (l : List Nat) : (frontL l).2.1 ≤ l.length ∧ (frontL l).2.1 ≤ 4 ∧ ((frontL l).2.2 = true → 1 ≤ (frontL l).2.1) := by
  cases l with
  | nil => simp [frontL]
  | cons c l =>
    rw [frontL]
    split
    · simp
    · have := frontGo_bounds (sizeN c - 1) 1 (loN c) (hiN c) l (headN (sizeN c) c)
      have := size_cases c
      simp only [List.length_cons]
      refine ⟨by omega, by omega, fun h => by omega⟩

/-- How many scalars, and how far: count so far, place so far. -/
def walkGo : (fuel count pos : Nat) → List Nat → Int × Int
  | _, count, _, [] => (count, -1)
  | 0, _, pos, _ :: _ => (-1, pos)
  | fuel + 1, count, pos, c :: l => if (frontL (c :: l)).2.2 then walkGo fuel (count + 1) (pos + (frontL (c :: l)).2.1) ((c :: l).drop (frontL (c :: l)).2.1) else (-1, (pos + (frontL (c :: l)).2.1 : Nat))
def walkL (l : List Nat) : Int × Int := walkGo l.length 0 0 l

theorem walkGo_nil (fuel count pos : Nat) : walkGo fuel count pos [] = ((count : Int), (-1 : Int)) := by cases fuel <;> rfl
theorem walkGo_ok {fuel : Nat} (count pos : Nat) {c : Nat} {l : List Nat} (hf : 0 < fuel) (h : (frontL (c :: l)).2.2 = true) :
    walkGo fuel count pos (c :: l) = walkGo (fuel - 1) (count + 1) (pos + (frontL (c :: l)).2.1) ((c :: l).drop (frontL (c :: l)).2.1) := by
  cases fuel with
  | zero => omega
  | succ n => rw [walkGo, if_pos h]; rfl
theorem walkGo_bad {fuel : Nat} (count pos : Nat) {c : Nat} {l : List Nat} (hf : 0 < fuel) (h : (frontL (c :: l)).2.2 = false) :
    walkGo fuel count pos (c :: l) = ((-1 : Int), ((pos + (frontL (c :: l)).2.1 : Nat) : Int)) := by
  cases fuel with
  | zero => omega
  | succ n => rw [walkGo, if_neg (by simp [h])]
/-- More fuel than bytes changes nothing. -/
theorem walkGo_fuel : ∀ (n f g count pos : Nat) (l : List Nat), l.length ≤ n → l.length ≤ f → l.length ≤ g → walkGo f count pos l = walkGo g count pos l := by
  intro n
  induction n with
  | zero =>
    intro f g count pos l h _ _
    obtain rfl : l = [] := List.length_eq_zero_iff.1 (by omega)
    rw [walkGo_nil, walkGo_nil]
  | succ n ih =>
    intro f g count pos l h hf hg
    cases l with
    | nil => rw [walkGo_nil, walkGo_nil]
    | cons c l =>
      simp only [List.length_cons] at h hf hg
      cases hb : (frontL (c :: l)).2.2 with
      | false => rw [walkGo_bad _ _ (by omega) hb, walkGo_bad _ _ (by omega) hb]
      | true =>
        rw [walkGo_ok _ _ (by omega) hb, walkGo_ok _ _ (by omega) hb]
        have h1 := (frontL_bounds (c :: l)).2.2 hb
        have hl : ((c :: l).drop (frontL (c :: l)).2.1).length ≤ l.length := by rw [List.length_drop, List.length_cons]; omega
        exact ih _ _ _ _ _ (by omega) (by omega) (by omega)

/-- Where a text can't become right any more; -1: it is right. -/
def badL (l : List Nat) : Int := (walkL l).2
/-- How many scalars a text is; -1: it isn't right. -/
def countL (l : List Nat) : Int := (walkL l).1
/-- What Next tells. -/
def nextS (s : ByteArray) (i : Int) : Nat × Nat × Bool :=
  if i < 0 ∨ (s.size : Int) ≤ i then (0, 0, false) else if (frontL ((bs s).drop i.toNat)).2.2 then frontL ((bs s).drop i.toNat) else (0, 0, false)

end Go.Proofs.Ytbkhdjbhijmghaa
