import Derived.Test.YtjjnmefihdjglaaGreatSortL
import Derived.Laws.IdiomCopy
namespace Go.Proofs.YtjjnmefihdjglaaGreat
open Go.RowKit
structure ExtB (b : Nat) (w W : World) : Prop where
 os : W.os = w.os
 tape : W.tape = w.tape
 output : W.output = w.output
 size : w.heap.size ≤ W.heap.size
 blk : ∀ k, k < w.heap.size → k ≠ b → W.heap[k]? = w.heap[k]?
 row : ∀ c t fr, w.heap[b]? = some (.cells c t fr) → ∃ c', W.heap[b]? = some (.cells c' t fr) ∧ c'.size = c.size
theorem ExtB.refl (b : Nat) (w : World) : ExtB b w w := ⟨rfl, rfl, rfl, Nat.le_refl _, fun _ _ _ => rfl, fun c _ _ h => ⟨c, h, rfl⟩⟩
theorem ExtB.ofExt {b : Nat} {w W : World} (h : Ext w W) (hb : b < w.heap.size) : ExtB b w W :=
 ⟨h.1, h.2, h.3, h.size, fun _ hk _ => h.heap hk, fun c _ _ e => ⟨c, (h.heap hb).trans e, rfl⟩⟩
theorem ExtB.trans {b : Nat} {u v w : World} (h : ExtB b u v) (k : ExtB b v w) : ExtB b u w :=
 ⟨k.os.trans h.os, k.tape.trans h.tape, k.output.trans h.output, Nat.le_trans h.size k.size, fun j hj hb => (k.blk j (Nat.lt_of_lt_of_le hj h.size) hb).trans (h.blk j hj hb), fun c t fr e => by
   obtain ⟨c1, e1, s1⟩ := h.row c t fr e
   obtain ⟨c2, e2, s2⟩ := k.row c1 t fr e1
   exact ⟨c2, e2, s2.trans s1⟩⟩
theorem ExtB.ext {b : Nat} {u v w : World} (h : ExtB b u v) (k : Ext v w) (hb : b < u.heap.size) : ExtB b u w := h.trans (.ofExt k (Nat.lt_of_lt_of_le hb h.size))
theorem ExtB.drew {b : Nat} {u v : World} (h : ExtB b u v) : ExtB b u v.drew := ⟨h.os, h.tape, h.output, h.size, h.blk, h.row⟩
theorem ExtB.toExt {b : Nat} {u v w : World} (h : Ext u v) (k : ExtB b v w) (hb : u.heap.size ≤ b) : Ext u w :=
 ⟨k.os.trans h.1, k.tape.trans h.2, k.output.trans h.3, Nat.le_trans h.size k.size, fun j hj => (k.blk j (Nat.lt_of_lt_of_le hj h.size) (by omega)).trans (h.heap hj)⟩
theorem ExtB.cell {b : Nat} {u v : World} (h : ExtB b u v) {p : Addr} (hp : p.block < u.heap.size) (hn : p.block ≠ b) : v.cell? p = u.cell? p := by
 unfold World.cell?
 rw [h.blk _ hp hn]
theorem ExtB.setCell {b : Nat} {u v : World} (h : ExtB b u v) (o : Nat) (x : Value) : ExtB b u (v.setCell ⟨b, o, none⟩ x) := by
 refine ⟨h.os, h.tape, h.output, ?_, fun j hj hb => ?_, fun c t fr e => ?_⟩
 ·unfold World.setCell; simp; exact h.size
 ·unfold World.setCell
  simp only [Array.getElem?_modify]
  rw [if_neg (by omega)]
  exact h.blk j hj hb
 ·obtain ⟨c1, e1, s1⟩ := h.row c t fr e
  refine ⟨c1.setIfInBounds o x, ?_, by simp [s1]⟩
  unfold World.setCell
  simp only [Array.getElem?_modify, if_true]
  rw [e1]
  rfl
theorem ExtB.setCells {b : Nat} {u : World} : ∀ (vs : List Value) (o : Nat) {v : World}, ExtB b u v → ExtB b u (v.setCells b o vs)
 | [], _, _, h => h
 | x :: r, o, _, h => ExtB.setCells r (o + 1) (h.setCell o x)
def setL (c : Array Value) : Nat → List Value → Array Value
 | _, [] => c
 | o, v :: r => setL (c.setIfInBounds o v) (o + 1) r
theorem setL_size : ∀ (vs : List Value) (o : Nat) (c : Array Value), (setL c o vs).size = c.size
 | [], _, _ => rfl
 | v :: r, o, c => by rw [setL, setL_size r]; simp
theorem setL_out : ∀ (vs : List Value) (o : Nat) (c : Array Value) (x : Nat), x < o ∨ o + vs.length ≤ x → (setL c o vs)[x]? = c[x]?
 | [], _, _, _, _ => rfl
 | v :: r, o, c, x, h => by
   simp only [List.length_cons] at h
   rw [setL, setL_out r (o + 1) _ x (by omega), Array.getElem?_setIfInBounds_ne (by omega)]
theorem setL_in : ∀ (vs : List Value) (o : Nat) (c : Array Value) (j : Nat), j < vs.length → o + vs.length ≤ c.size → (setL c o vs)[o + j]? = vs[j]?
 | v :: r, o, c, 0, _, h => by
   simp only [List.length_cons] at h
   rw [setL, setL_out r (o + 1) _ _ (by omega), Nat.add_zero, Array.getElem?_setIfInBounds_self_of_lt (by omega)]
   rfl
 | v :: r, o, c, j + 1, hj, h => by
   simp only [List.length_cons] at h hj
   rw [setL, show o + (j + 1) = o + 1 + j from by omega, setL_in r (o + 1) _ j (by omega) (by simp; omega)]
   rfl
theorem heap_setCells (b : Nat) : ∀ (vs : List Value) (o : Nat) (w : World) (c : Array Value) (t : TypeId) (fr : Nat × Nat), w.heap[b]? = some (.cells c t fr) → (w.setCells b o vs).heap[b]? = some (.cells (setL c o vs) t fr)
 | [], _, _, _, _, _, h => h
 | v :: r, o, w, c, t, fr, h => by
   rw [World.setCells, setL]
   refine heap_setCells b r (o + 1) _ _ t fr ?_
   unfold World.setCell
   simp only [Array.getElem?_modify, if_true]
   rw [h]
   rfl
section
variable {E : Type} {K : Nat} {T : TypeId} {cs : E → List Value}
def RowE (K : Nat) (T : TypeId) (cs : E → List Value) (b n : Nat) (d : Nat → E) (W : World) : Prop :=
 ∃ c : Array Value, W.heap[b]? = some (.cells c T (0, 0)) ∧ n * K ≤ c.size ∧ ∀ i, i < n → ∀ j, j < K → c[i * K + j]? = (cs (d i))[j]?
theorem RowE.lt {b n : Nat} {d : Nat → E} {W : World} (h : RowE K T cs b n d W) : b < W.heap.size := by
 obtain ⟨c, e, _⟩ := h
 exact (Array.getElem?_eq_some_iff.1 e).1
theorem RowE.ext {b n : Nat} {d : Nat → E} {W W' : World} (h : RowE K T cs b n d W) (x : Ext W W') : RowE K T cs b n d W' := by
 have hb := h.lt
 obtain ⟨c, e, k⟩ := h
 exact ⟨c, (x.heap hb).trans e, k⟩
theorem RowE.drew {b n : Nat} {d : Nat → E} {W : World} (h : RowE K T cs b n d W) : RowE K T cs b n d W.drew := h
theorem RowE.congr {b n : Nat} {d e : Nat → E} {W : World} (h : RowE K T cs b n d W) (k : ∀ i, i < n → e i = d i) : RowE K T cs b n e W := by
 obtain ⟨c, e1, e2, e3⟩ := h
 exact ⟨c, e1, e2, fun i hi j hj => by rw [k i hi]; exact e3 i hi j hj⟩
theorem RowE.cell {b n : Nat} {d : Nat → E} {W : World} (h : RowE K T cs b n d W) (i j : Nat) (v : Value) (hi : i < n) (hj : j < K) (hv : (cs (d i))[j]? = some v) : W.cell? ⟨b, i * K + j, none⟩ = some v := by
 obtain ⟨c, e1, e2, e3⟩ := h
 rw [Lib.cell_of_heap e1, e3 i hi j hj]
 exact hv
theorem RowE.free {b n : Nat} {d : Nat → E} {W : World} (h : RowE K T cs b n d W) (o : Nat) : W.frozen? ⟨b, o, none⟩ = false := by
 obtain ⟨c, e1, _⟩ := h
 unfold World.frozen?
 rw [e1]
 simp
theorem row_le {i n K : Nat} (h : i < n) : i * K + K ≤ n * K := by
 have := Nat.mul_le_mul_right K (show i + 1 ≤ n from h); rwa [Nat.add_mul, Nat.one_mul] at this
theorem RowE.set (hK : ∀ x, (cs x).length = K) {b n : Nat} {d : Nat → E} {W : World} (h : RowE K T cs b n d W) (i : Nat) (hi : i < n) (p : E) : RowE K T cs b n (fun x => if x = i then p else d x) (W.setCells b (i * K) (cs p)) := by
 obtain ⟨c, e1, e2, e3⟩ := h
 have hle := row_le (K := K) hi
 refine ⟨setL c (i * K) (cs p), heap_setCells b _ _ _ _ _ _ e1, by rw [setL_size]; exact e2, fun x hx j hj => ?_⟩
 dsimp only
 by_cases e : x = i
 ·subst e
  rw [if_pos rfl]
  exact setL_in _ _ _ _ (by rw [hK]; exact hj) (by rw [hK]; omega)
 ·rw [if_neg e, setL_out _ _ _ _ (by
   rw [hK]
   rcases Nat.lt_or_gt_of_ne e with h1 | h1
   ·have := row_le (K := K) h1; omega
   ·have := row_le (K := K) h1; omega)]
  exact e3 x hx j hj
theorem RowE.swap (hK : ∀ x, (cs x).length = K) {b n : Nat} {d : Nat → E} {W : World} (h : RowE K T cs b n d W) (i j : Nat) (hi : i < n) (hj : j < n) :
  RowE K T cs b n (swF d i j) ((W.setCells b (i * K) (cs (d j))).setCells b (j * K) (cs (d i))).drew := by
 refine ((h.set hK i hi (d j)).set hK j hj (d i)).congr fun x _ => ?_
 unfold swF
 by_cases e : x = j
 ·subst e
  by_cases e2 : x = i
  ·subst e2; simp
  ·simp [e2]
 ·simp [e]
theorem ExtB.swap {b : Nat} {u v : World} (h : ExtB b u v) (o1 o2 : Nat) (l1 l2 : List Value) : ExtB b u ((v.setCells b o1 l1).setCells b o2 l2).drew := ((h.setCells l1 o1).setCells l2 o2).drew
end
theorem exF_sw {α : Type} (d : Nat → α) (a b n lo hi : Nat) (h : a + n ≤ b) (h1 : lo ≤ a) (h2 : b + n ≤ hi) : ∀ i, i ≤ n → Sw lo hi d (exF d a b i)
 | 0, _ => by rw [exF_zero]; exact .refl
 | i + 1, hi' => by
   rw [← exF_step d a b i n h (by omega)]
   exact (exF_sw d a b n lo hi h h1 h2 i (by omega)).swap _ _ (by omega) (by omega) (by omega) (by omega)
theorem upF_sw {α : Type} (d : Nat → α) (a lo hi : Nat) (h1 : lo ≤ a) : ∀ k, a + k < hi → Sw lo hi d (upF d a (a + k))
 | 0, _ => by rw [Nat.add_zero, upF_start]; exact .refl
 | k + 1, h => by
   rw [← Nat.add_assoc, ← upF_step d a (a + k) (by omega)]
   exact (upF_sw d a lo hi h1 k (by omega)).swap _ _ (by omega) (by omega) (by omega) (by omega)
theorem dnF_sw {α : Type} (d : Nat → α) (m lo hi : Nat) (h1 : m < hi) : ∀ k, lo + k ≤ m → Sw lo hi d (dnF d m (m - k))
 | 0, _ => by rw [Nat.sub_zero, dnF_start]; exact .refl
 | k + 1, h => by
   rw [← dnF_step d m (m - (k + 1)) (by omega), show m - (k + 1) + 1 = m - k from by omega]
   exact (dnF_sw d m lo hi h1 k (by omega)).swap _ _ (by omega) (by omega) (by omega) (by omega)
theorem Sw.all {α : Type} {S : α → Prop} {a b n : Nat} {d e : Nat → α} (h : Sw a b d e) (hb : b ≤ n) (k : ∀ i, i < n → S (d i)) : ∀ i, i < n → S (e i) := fun i hi => by
 by_cases q : a ≤ i ∧ i < b
 ·obtain ⟨y, _, y2, ey⟩ := h.src i q.1 q.2
  rw [ey]; exact k y (by omega)
 ·rw [h.out i (by omega)]; exact k i hi
end Go.Proofs.YtjjnmefihdjglaaGreat
