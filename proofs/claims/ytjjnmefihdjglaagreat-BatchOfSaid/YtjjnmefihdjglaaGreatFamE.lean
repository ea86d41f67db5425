import Derived.Test.YtjjnmefihdjglaaGreatFamG
import Derived.Test.YtjjnmefihdjglaaGreatFamRow
namespace Go.Proofs.YtjjnmefihdjglaaGreat
open Go.RowKit
structure FamD where
 nm : ByteArray
 k : Int
 un : ByteArray
 he : ByteArray
 pa : Option Addr
 pc : Nat
 ps : List PtD
def FamD.cs (f : FamD) : List Value := [.string f.nm, .int .i64 f.k, .string f.un, .string f.he, .slice f.pa f.ps.length f.pc]
def FamD.v (f : FamD) : Value := .agg #[.string f.nm, .int .i64 f.k, .string f.un, .string f.he, .slice f.pa f.ps.length f.pc]
def FamD.zero : FamD := ⟨⟨#[]⟩, 0, ⟨#[]⟩, ⟨#[]⟩, none, 0, []⟩
structure FamY where
 nm : ByteArray
 k : Int
 un : ByteArray
 he : ByteArray
 ps : List PtY
def FamD.y (f : FamD) : FamY := ⟨f.nm, f.k, f.un, f.he, f.ps.map PtD.y⟩
theorem FamD.y_len (f : FamD) : f.y.ps.length = f.ps.length := by simp [FamD.y]
def FamsAt (b o : Nat) (l : List FamD) (w : World) : Prop :=
 ∀ i (h : i < l.length), w.cell? ⟨b, o + i * 5, none⟩ = some (.string l[i].nm) ∧ w.cell? ⟨b, o + i * 5 + 1, none⟩ = some (.int .i64 l[i].k) ∧ w.cell? ⟨b, o + i * 5 + 2, none⟩ = some (.string l[i].un) ∧
  w.cell? ⟨b, o + i * 5 + 3, none⟩ = some (.string l[i].he) ∧ w.cell? ⟨b, o + i * 5 + 4, none⟩ = some (.slice l[i].pa l[i].ps.length l[i].pc)
def FamsA (a : Option Addr) (l : List FamD) (w : World) : Prop :=
 (0 < l.length → ∃ b o, a = some ⟨b, o, none⟩ ∧ b < w.heap.size ∧ FamsAt b o l w) ∧ ∀ f ∈ l, PtsA f.pa f.ps w
theorem FamsAt.ext {b o : Nat} {l : List FamD} {w w' : World} (h : FamsAt b o l w) (hb : b < w.heap.size) (x : Ext w w') : FamsAt b o l w' := by
 intro i hi
 obtain ⟨c0, c1, c2, c3, c4⟩ := h i hi
 exact ⟨(Ext.cell x hb).trans c0, (Ext.cell x hb).trans c1, (Ext.cell x hb).trans c2, (Ext.cell x hb).trans c3, (Ext.cell x hb).trans c4⟩
theorem FamsA.ext {a : Option Addr} {l : List FamD} {w w' : World} (h : FamsA a l w) (x : Ext w w') : FamsA a l w' := by
 refine ⟨fun h0 => ?_, fun f hf => (h.2 f hf).ext x⟩
 obtain ⟨b, o, e, hb, hA⟩ := h.1 h0
 exact ⟨b, o, e, Nat.lt_of_lt_of_le hb x.size, hA.ext hb x⟩
theorem FamsA.nil (a : Option Addr) (w : World) : FamsA a [] w := ⟨fun h => absurd h (by simp), fun f hf => by cases hf⟩
theorem FamsA.from {b o : Nat} {l : List FamD} {w : World} (h : FamsA (some ⟨b, o, none⟩) l w) (k : Nat) : FamsA (some ⟨b, o + k * 5, none⟩) (l.drop k) w := by
 refine ⟨fun h0 => ?_, fun p hp => h.2 p (List.mem_of_mem_drop hp)⟩
 rw [List.length_drop] at h0
 obtain ⟨b', o', e, hb, hP⟩ := h.1 (by omega)
 injection e with e
 injection e with e1 e2
 subst e1 e2
 refine ⟨b, o + k * 5, rfl, hb, fun i hi => ?_⟩
 rw [List.length_drop] at hi
 have := hP (k + i) (by omega)
 have ee : (l.drop k)[i]'(by rw [List.length_drop]; exact hi) = l[k + i] := by simp
 rw [ee, show o + k * 5 + i * 5 = o + (k + i) * 5 from by rw [Nat.add_mul]; omega]
 exact this
theorem FamsA.upto {a : Option Addr} {l : List FamD} {w : World} (h : FamsA a l w) (k : Nat) : FamsA a (l.take k) w := by
 refine ⟨fun h0 => ?_, fun p hp => h.2 p (List.mem_of_mem_take hp)⟩
 rw [List.length_take] at h0
 obtain ⟨b, o, rfl, hb, hP⟩ := h.1 (by omega)
 refine ⟨b, o, rfl, hb, fun i hi => ?_⟩
 rw [List.length_take] at hi
 have := hP i (by omega)
 have ee : (l.take k)[i]'(by rw [List.length_take]; exact hi) = l[i] := by simp
 rw [ee]
 exact this
theorem FamsA.src {ad : Addr} {l : List FamD} {w : World} (h : FamsA (some ad) l w) : ∀ i, i < l.length → ∀ j, j < 5 → w.cell? (ad.add (i * 5 + j)) = (FamD.cs (l[i]?.getD FamD.zero))[j]? := by
 intro i hi j hj
 obtain ⟨b, o, e, hb, hL⟩ := h.1 (by omega)
 injection e with e
 subst e
 have q := hL i hi
 rw [Addr.add_lit, show l[i]?.getD FamD.zero = l[i] from by rw [List.getElem?_eq_getElem hi]; rfl]
 obtain ⟨q0, q1, q2, q3, q4⟩ := q
 match j, hj with
 | 0, _ => exact q0
 | 1, _ => exact q1
 | 2, _ => exact q2
 | 3, _ => exact q3
 | 4, _ => exact q4
theorem famC_one (f : FamD) : ∀ u ∈ FamD.cs f, u.oneCell' = true := by
 intro u hu
 simp [FamD.cs] at hu
 rcases hu with rfl | rfl | rfl | rfl | rfl <;> rfl
theorem OwnR.fams {base n : Nat} {v : Value} {L : List FamD} {W : World} (h : OwnR 5 35 FamD.cs base v n (fun i => L[i]?.getD FamD.zero) W) (hn : n = L.length) (hp : ∀ f ∈ L, PtsA f.pa f.ps W) : ∃ a c, v = .slice a L.length c ∧ FamsA a L W := by
 subst hn
 obtain ⟨a, c, rfl⟩ := h.form
 refine ⟨a, c, rfl, fun h0 => ?_, hp⟩
 obtain ⟨g, cap, e, hg, hr⟩ := h.row h0
 injection e with e _ _
 subst e
 refine ⟨g, 0, rfl, hr.lt, fun i hi => ?_⟩
 have e : L[i]?.getD FamD.zero = L[i] := by simp [hi]
 have C := fun j v hj hv => hr.cell i j v hi hj (by rw [e]; exact hv)
 rw [Nat.zero_add]
 exact ⟨C 0 _ (by decide) rfl, C 1 _ (by decide) rfl, C 2 _ (by decide) rfl, C 3 _ (by decide) rfl, C 4 _ (by decide) rfl⟩
def cmpFN (x y : FamD) : Int := cmpS x.nm y.nm
theorem cmpFN_cmp : Cmp cmpFN := cmpS_cmp.pull (fun f : FamD => f.nm)
end Go.Proofs.YtjjnmefihdjglaaGreat
