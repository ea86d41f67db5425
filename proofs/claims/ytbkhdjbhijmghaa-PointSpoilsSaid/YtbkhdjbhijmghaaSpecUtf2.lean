/- Plain functions: the bytes of a scalar. -/
import Derived.Test.YtbkhdjbhijmghaaSpecUtf
namespace Go.Proofs.Ytbkhdjbhijmghaa

/-- Is a number a scalar? -/
def isScalar (r : Int) : Bool := decide (0 ≤ r ∧ r ≤ 1114111 ∧ ¬ (55296 ≤ r ∧ r ≤ 57343))
/-- A scalar's bytes. -/
def encL (r : Nat) : List Nat :=
  if r < 128 then [r]
  else if r < 2048 then [192 + r / 64, 128 + r % 64]
  else if r < 65536 then [224 + r / 4096, 128 + r / 64 % 64, 128 + r % 64]
  else [240 + r / 262144, 128 + r / 4096 % 64, 128 + r / 64 % 64, 128 + r % 64]
/-- Bytes as a string. -/
def ofL (l : List Nat) : ByteArray := ⟨(l.map UInt8.ofNat).toArray⟩
def encS (r : Int) : ByteArray := if isScalar r then ofL (encL r.toNat) else ByteArray.empty

theorem bs_ofL {l : List Nat} (h : ∀ x ∈ l, x < 256) : bs (ofL l) = l := by
  simp only [bs, ofL, List.map_map]
  conv => rhs; rw [← List.map_id l]
  refine List.map_congr_left fun x hx => ?_
  simp [h x hx, Nat.mod_eq_of_lt]
theorem encL_lt (r : Nat) (h : r ≤ 1114111) : ∀ x ∈ encL r, x < 256 := by
  intro x hx
  unfold encL at hx
  (repeat' split at hx) <;> simp at hx <;> omega

theorem frontGo_whole {rem : Nat} (h : 0 < rem) (k lo hi r : Nat) {d : Nat} (l : List Nat) (hw : (frontGo rem k lo hi (d :: l) r).2.2 = true) : frontGo rem k lo hi (d :: l) r = frontGo (rem - 1) (k + 1) 128 191 l (r * 64 + d % 64) := by
  by_cases hd : lo ≤ d ∧ d ≤ hi
  · exact frontGo_ok h k lo hi r l hd
  · rw [frontGo_bad h k lo hi r l (by omega)] at hw; cases hw
theorem frontGo_whole_ne {rem : Nat} (h : 0 < rem) (k lo hi r : Nat) (hw : (frontGo rem k lo hi [] r).2.2 = true) : False := by
  rw [frontGo_nil h] at hw; cases hw
/-- A whole scalar's first byte says how many bytes it has. -/
theorem frontL_whole {c : Nat} {l : List Nat} (hw : (frontL (c :: l)).2.2 = true) : (frontL (c :: l)).2.1 = sizeN c ∧ 1 ≤ sizeN c ∧ frontL (c :: l) = frontGo (sizeN c - 1) 1 (loN c) (hiN c) l (headN (sizeN c) c) := by
  by_cases h : sizeN c = 0
  · rw [frontL, if_pos h] at hw; cases hw
  · have he : frontL (c :: l) = frontGo (sizeN c - 1) 1 (loN c) (hiN c) l (headN (sizeN c) c) := by rw [frontL, if_neg h]
    rw [he] at hw ⊢
    have := (frontGo_bounds (sizeN c - 1) 1 (loN c) (hiN c) l (headN (sizeN c) c)).2.2.2 hw
    exact ⟨by omega, by omega, rfl⟩
theorem walkGo_neg : ∀ (f c p : Nat) (l : List Nat), 0 ≤ (walkGo f c p l).2 → (walkGo f c p l).1 = -1 := by
  intro f
  induction f with
  | zero => intro c p l h; cases l with
    | nil => rw [walkGo_nil] at h; simp at h
    | cons d l => rfl
  | succ f ih =>
    intro c p l h
    cases l with
    | nil => rw [walkGo_nil] at h; simp at h
    | cons d l =>
      cases hb : (frontL (d :: l)).2.2 with
      | true => rw [walkGo_ok _ _ (by omega) hb] at h ⊢; exact ih _ _ _ h
      | false => rw [walkGo_bad _ _ (by omega) hb]
theorem walkGo_lo : ∀ (f c p : Nat) (l : List Nat), -1 ≤ (walkGo f c p l).2 := by
  intro f
  induction f with
  | zero => intro c p l; cases l with
    | nil => rw [walkGo_nil]; simp
    | cons d l => simp [walkGo]; try omega
  | succ f ih =>
    intro c p l
    cases l with
    | nil => rw [walkGo_nil]; simp
    | cons d l =>
      cases hb : (frontL (d :: l)).2.2 with
      | true => rw [walkGo_ok _ _ (by omega) hb]; exact ih _ _ _
      | false => rw [walkGo_bad _ _ (by omega) hb]; simp; try omega
/-- The reference's words on a first byte. -/
def spanN (c : Nat) : Nat × Nat × Nat :=
  if c < 128 then (1, 0, 0) else if c < 194 ∨ 244 < c then (0, 0, 0) else if c < 224 then (2, 128, 191) else if c = 224 then (3, 160, 191) else if c = 237 then (3, 128, 159)
  else if c < 240 then (3, 128, 191) else if c = 240 then (4, 144, 191) else if c = 244 then (4, 128, 143) else (4, 128, 191)
theorem spanN_size (c : Nat) : (spanN c).1 = sizeN c := by
  unfold spanN sizeN; (repeat' split) <;> first | rfl | (exfalso; omega)
theorem spanN_lo (c : Nat) (h : 1 < sizeN c) : (spanN c).2 = (loN c, hiN c) := by
  unfold sizeN at h; unfold spanN loN hiN
  (repeat' split) <;> first | rfl | (exfalso; omega) | ((repeat' split at h) <;> omega)
theorem spanN_lt (c : Nat) : (spanN c).2.1 < 256 ∧ (spanN c).2.2 < 256 := by
  unfold spanN; (repeat' split) <;> simp
end Go.Proofs.Ytbkhdjbhijmghaa
