/- The law FamilySorts answers true: the walk (printed by tools/mkfs6.py). -/
import Derived.Test.YtjjnmefihdjglaaFamSortP
import Derived.Test.YtjjnmefihdjglaaFamShort
import Derived.Test.YtjjnmefihdjglaaFamRow
import Derived.Test.YtjjnmefihdjglaaRpB
import Derived.Test.YtjjnmefihdjglaaApp
import Derived.Deep.DeepCutAuto
set_option linter.unusedSimpArgs false
namespace Go.Proofs.Ytjjnmefihdjglaa
open Go.RowKit

/-- What becomes of a row, put in order, or not. -/
def Cas (nm : ByteArray) (k : Int) (un he : ByteArray) (l : List PtD) (n2 : ByteArray) (k2 : Int) (u2 h2 : ByteArray) (L : List PtD) (ok : Bool) : Prop :=
  (ok = true ∧ n2 = nm ∧ k2 = k ∧ u2 = un ∧ h2 = he ∧ (L.map PtD.y).Perm (l.map PtD.y) ∧ Ris cmpY (L.map PtD.y)) ∨ (ok = false ∧ n2 = ⟨#[]⟩ ∧ L = [] ∧ ∀ M : List PtY, M.Perm (l.map PtD.y) → ¬ Ris cmpY M)
theorem SortTold.form {nm : ByteArray} {k : Int} {un he : ByteArray} {l : List PtD} {base : Nat} {e : Ending} {w' : World} (h : SortTold nm k un he l base e w') :
    ∃ (n2 : ByteArray) (k2 : Int) (u2 h2 : ByteArray) (a2 : Option Addr) (c2 : Nat) (L : List PtD) (ok : Bool), e = .returned (.tuple #[.agg #[.string n2, .int .i64 k2, .string u2, .string h2, .slice a2 L.length c2], .bool ok]) ∧ OwnP base (.slice a2 L.length c2) L w' ∧ PtsA a2 L w' ∧ Cas nm k un he l n2 k2 u2 h2 L ok := by
  rcases h with ⟨v, L, h1, h2, h3, h4⟩ | ⟨h1, h2⟩
  · obtain ⟨a, c, rfl, h5⟩ := h4.pts
    exact ⟨nm, k, un, he, a, c, L, true, h3, h4, h5, .inl ⟨rfl, rfl, rfl, rfl, rfl, h1, h2⟩⟩
  · exact ⟨⟨#[]⟩, 0, ⟨#[]⟩, ⟨#[]⟩, none, 0, [], false, h2, ⟨OwnR.nil _ _ _, fun p hp => by cases hp⟩, ⟨fun h => absurd h (by simp), by simp⟩, .inr ⟨rfl, rfl, rfl, h1⟩⟩
/-- Rows that are one but for their order become one. -/
theorem Cas.two {nm : ByteArray} {k : Int} {un he : ByteArray} {l l' : List PtD} {n2 : ByteArray} {k2 : Int} {u2 h2 : ByteArray} {L : List PtD} {ok : Bool} {n3 : ByteArray} {k3 : Int} {u3 h3 : ByteArray} {L3 : List PtD} {ok3 : Bool}
    (A : Cas nm k un he l n2 k2 u2 h2 L ok) (B : Cas nm k un he l' n3 k3 u3 h3 L3 ok3) (p : (l'.map PtD.y).Perm (l.map PtD.y)) : ok3 = ok ∧ (ok = true → n3 = n2 ∧ k3 = k2 ∧ u3 = u2 ∧ h3 = h2 ∧ L3.map PtD.y = L.map PtD.y) := by
  rcases A with ⟨rfl, rfl, rfl, rfl, rfl, a1, a2⟩ | ⟨rfl, rfl, rfl, a⟩
  · rcases B with ⟨rfl, rfl, rfl, rfl, rfl, b1, b2⟩ | ⟨rfl, rfl, rfl, b⟩
    · exact ⟨rfl, fun _ => ⟨rfl, rfl, rfl, rfl, Ris.unique cmpY_cmp b2 a2 ((b1.trans p).trans a1.symm)⟩⟩
    · exact absurd a2 (b _ (a1.trans p.symm))
  · rcases B with ⟨rfl, rfl, rfl, rfl, rfl, b1, b2⟩ | ⟨rfl, rfl, rfl, b⟩
    · exact absurd b2 (a _ (b1.trans p))
    · exact ⟨rfl, fun h => by cases h⟩
theorem PtsA.src {ad : Addr} {l : List PtD} {w : World} (h : PtsA (some ad) l w) : ∀ i, i < l.length → ∀ j, j < 9 → w.cell? (ad.add (i * 9 + j)) = (PtD.cs (l[i]?.getD PtD.zero))[j]? := by
  intro i hi j hj
  obtain ⟨b, o, e, hb, hL⟩ := h.1 (by omega)
  injection e with e
  subst e
  have q := hL i hi
  rw [Addr.add_lit, show l[i]?.getD PtD.zero = l[i] from by rw [List.getElem?_eq_getElem hi]; rfl]
  obtain ⟨q0, q1, q2, q3, q4, q5, q6, q7, q8⟩ := q
  match j, hj with
  | 0, _ => exact q0
  | 1, _ => exact q1
  | 2, _ => exact q2
  | 3, _ => exact q3
  | 4, _ => exact q4
  | 5, _ => exact q5
  | 6, _ => exact q6
  | 7, _ => exact q7
  | 8, _ => exact q8
theorem PtsA.one {g : Nat} {p : PtD} {w : World} (h : w.heap[g]? = some (.cells #[.slice p.a p.l.length p.c, .int .i64 p.r, .bool p.f, .int .i64 p.M, .int .i64 p.S, .int .i64 p.m, .int .i64 p.s, .bool p.t, .int .i64 p.T] 35 (0, 0))) (ok : p.Ok w) : PtsA (some ⟨g, 0, none⟩) [p] w := by
  refine ⟨fun _ => ⟨g, 0, rfl, (Array.getElem?_eq_some_iff.1 h).1, fun i hi => ?_⟩, fun q hq => by rw [List.mem_singleton] at hq; subst hq; exact ok⟩
  simp only [Lib.cell_of_heap h]
  match i, hi with
  | 0, _ => exact ⟨rfl, rfl, rfl, rfl, rfl, rfl, rfl, rfl, rfl⟩
theorem OwnR.ptsA {base n : Nat} {v : Value} {L : List PtD} {W : World} (h : OwnR 9 35 PtD.cs base v n (fun i => L[i]?.getD PtD.zero) W) (hn : n = L.length) (hp : ∀ p ∈ L, p.Ok W) : ∃ a c, v = .slice a L.length c ∧ PtsA a L W := by
  subst hn
  obtain ⟨a, c, rfl⟩ := h.form
  refine ⟨a, c, rfl, fun h0 => ?_, hp⟩
  obtain ⟨g, cap, e, hg, hr⟩ := h.row h0
  injection e with e _ _
  subst e
  refine ⟨g, 0, rfl, hr.lt, fun i hi => ?_⟩
  have e : L[i]?.getD PtD.zero = L[i] := by simp [hi]
  have C := fun j v hj hv => hr.cell i j v hi hj (by rw [e]; exact hv)
  rw [Nat.zero_add]
  exact ⟨C 0 _ (by decide) rfl, C 1 _ (by decide) rfl, C 2 _ (by decide) rfl, C 3 _ (by decide) rfl, C 4 _ (by decide) rfl, C 5 _ (by decide) rfl, C 6 _ (by decide) rfl, C 7 _ (by decide) rfl, C 8 _ (by decide) rfl⟩

theorem Cas.no {nm : ByteArray} {k : Int} {un he : ByteArray} {l : List PtD} {p : PtD} {n2 : ByteArray} {k2 : Int} {u2 h2 : ByteArray} {L : List PtD} {ok : Bool} (C : Cas nm k un he (l ++ [p]) n2 k2 u2 h2 L ok) (hp : p ∈ l) : ok = false := by
  rcases C with ⟨_, _, _, _, _, h1, h2⟩ | ⟨h, _⟩
  · refine absurd h2 (not_ris_twice (l.map PtD.y) p.y (List.mem_map_of_mem hp) _ ?_)
    simpa using h1
  · exact h
theorem Cas.fail {nm : ByteArray} {k : Int} {un he : ByteArray} {l : List PtD} {n2 : ByteArray} {k2 : Int} {u2 h2 : ByteArray} {L : List PtD} (C : Cas nm k un he l n2 k2 u2 h2 L false) : n2 = ⟨#[]⟩ ∧ L = [] := by
  rcases C with ⟨h, _⟩ | ⟨_, h1, h2, _⟩
  · cases h
  · exact ⟨h1, h2⟩
theorem Cas.good {nm : ByteArray} {k : Int} {un he : ByteArray} {l : List PtD} {n2 : ByteArray} {k2 : Int} {u2 h2 : ByteArray} {L : List PtD} (C : Cas nm k un he l n2 k2 u2 h2 L true) : nm = n2 ∧ k = k2 ∧ un = u2 ∧ he = h2 ∧ (L.map PtD.y).Perm (l.map PtD.y) ∧ Ris cmpY (L.map PtD.y) := by
  rcases C with ⟨_, h1, h2, h3, h4, h5⟩ | ⟨h, _⟩
  · exact ⟨h1.symm, h2.symm, h3.symm, h4.symm, h5⟩
  · cases h
theorem rcmpD_any (p q : PtD) (w : World) (h1 : p.Ok w) (h2 : q.Ok w) : Calls Try.prog 12 #[p.v, q.v] w fun e w' => e = .returned (.int .i64 (cmpK p.k q.k)) ∧ Ext w w' :=
  rPtCmp_any p.a q.a p.c q.c p.l q.l p.r p.f p.M p.S p.m p.s p.t p.T q.r q.f q.M q.S q.m q.s q.t q.T w h1.1 h2.1 h1.2.1 h2.2.1 h1.2.2.2.1.1 h1.2.2.2.1.2 h2.2.2.2.1.1 h2.2.2.2.1.2

/-- A family laid by, and whether there is one. -/
def Told (nm : ByteArray) (k : Int) (un he : ByteArray) (l : List PtD) (s t : Value) (wx : World) : Prop :=
  ∃ (nb : Nat) (n3 : ByteArray) (k3 : Int) (u3 h3 : ByteArray) (a3 : Option Addr) (c3 : Nat) (L3 : List PtD) (ok3 : Bool), s = .pointer (some ⟨nb, 0, none⟩) ∧ t = .bool ok3 ∧ FamIn nb n3 k3 u3 h3 (.slice a3 L3.length c3) wx ∧ PtsA a3 L3 wx ∧ Hid (Cas nm k un he l n3 k3 u3 h3 L3 ok3)

set_option maxHeartbeats 16000000 in
set_option maxRecDepth 100000 in
theorem FamilySorts_main (nm : ByteArray) (kd : Int) (un he : ByteArray) (A : Option Addr) (c : Nat) (l : List PtD) (turn : Int) (w : World) (g : FamGot w nm kd un he A c l) (ht : 0 ≤ turn ∧ turn ≤ 255) :
    Calls Try.prog 3 #[.agg #[.string nm, .int .i64 kd, .string un, .string he, .slice A l.length c], .int .u8 turn] w fun e w' => e = .returned (.bool true) ∧ Ext w w' := by
  obtain ⟨W, hW⟩ : ∃ W, w.alloc (.cells #[.string nm, .int .i64 kd, .string un, .string he, .slice A l.length c] 26) = W := ⟨_, rfl⟩
  have x1 : Ext w W := by rw [← hW]; exact (Ext.refl w).alloc _
  have g1 : FamIn w.heap.size nm kd un he (.slice A l.length c) W := by rw [← hW]; exact heap_last _ _
  replace hW := Lib.hid hW
  obtain ⟨B, hB⟩ : ∃ B, w.heap.size = B := ⟨_, rfl⟩
  rw [hB] at g1
  have hBw : w.heap.size ≤ B := by omega
  have hP := g.pts.ext x1
  have hlc := g.le
  have hcm := g.cm
  have hlm : (l.length : Int) ≤ 9223372036854775807 := by omega
  clear g
  go_enter Try.func3, Try.ntmps3
  go_wp2_with fail
  rw [hW.out]
  (with_reducible refine (known9_any _).mono ?_)
  rintro e w1 ⟨rfl, y1⟩
  replace g1 := g1.ext y1
  replace hP := hP.ext y1
  have z1 := x1.trans y1
  clear hW hB y1 x1
  obtain ⟨c0, c1, c2, c3, c4⟩ := g1.cells
  go_wp2_with fail
  (with_reducible refine (short9_any nm kd un he A c l w1 hlm hP).mono ?_)
  rintro e w2 ⟨⟨sb, rfl, hsb⟩, y1⟩
  replace g1 := g1.ext y1
  replace hP := hP.ext y1
  replace z1 := z1.trans y1
  clear c0 c1 c2 c3 c4 y1
  obtain ⟨c0, c1, c2, c3, c4⟩ := g1.cells
  cases sb
  · clear hsb
    go_wp2_with fail
    go_ret
    exact ⟨rfl, z1⟩
  obtain ⟨h40, h12⟩ := hsb rfl
  clear hsb
  by_cases h0 : l.length = 0
  · have h0' : (l.length : Int) = 0 := by omega
    go_wp2_with fail
    go_ret
    exact ⟨rfl, z1⟩
  have h0' : ¬ (l.length : Int) = 0 := by omega
  have hlpos : 0 < l.length := by omega
  have SO := famSort_any nm kd un he A c l w2 (by omega) (fun p hp => by have := h12 p hp; omega) hP
  go_wp2_with fail
  (with_reducible refine SO.mono ?_)
  rintro e w3 ⟨hs, y1⟩
  clear SO
  obtain ⟨n2, k2, u2, h2, a2, cA, L, ok, rfl, _, hPL, hcase⟩ := hs.form
  clear hs
  replace hcase := Lib.hid hcase
  replace g1 := g1.ext y1
  replace hP := hP.ext y1
  replace z1 := z1.trans y1
  have gA : FamIn w3.heap.size n2 k2 u2 h2 (.slice a2 L.length cA) (w3.alloc (.cells #[.string n2, .int .i64 k2, .string u2, .string h2, .slice a2 L.length cA] 26)) := heap_last _ _
  have y2 := (Ext.refl w3).alloc (.cells #[.string n2, .int .i64 k2, .string u2, .string h2, .slice a2 L.length cA] 26)
  replace g1 := g1.ext y2
  clear y1
  obtain ⟨c0, c1, c2', c3, c4⟩ := g1.cells
  obtain ⟨k, hk⟩ : ∃ k : Nat, turn % (l.length : Int) = (k : Int) := ⟨(turn % (l.length : Int)).toNat, by have := Int.emod_nonneg turn (show (l.length : Int) ≠ 0 by omega); omega⟩
  have hkl : k < l.length := by have := Int.emod_lt_of_pos turn (show (0 : Int) < l.length by omega); omega
  have ht1 : IntKind.i64.wrap turn = turn := IntWalk.i64_in _ (by omega)
  have ht2 : turn.tmod (l.length : Int) = (k : Int) := by rw [Int.tmod_eq_emod_of_nonneg ht.1]; exact hk
  obtain ⟨b, o, hAe, hb, hPP⟩ := hP.1 hlpos
  subst hAe
  have kc : (k : Int) < (c : Int) := by omega
  have hck : ¬ c = k := by omega
  have kl : (k : Int) < (l.length : Int) := by omega
  have kle : (k : Int) ≤ (l.length : Int) := by omega
  have kce : (k : Int) ≤ (c : Int) := by omega
  go_upto_region 7 with fail
  obtain ⟨WW, hWW⟩ : ∃ WW, w3.alloc (.cells #[.string n2, .int .i64 k2, .string u2, .string h2, .slice a2 L.length cA] 26) = WW := ⟨_, rfl⟩
  rw [hWW] at gA y2 g1 c0 c1 c2' c3 c4 ⊢
  clear hWW
  have hBB : B < WW.heap.size := (Array.getElem?_eq_some_iff.1 g1).1
  obtain ⟨LL, hLL⟩ : ∃ LL, l.drop k ++ l.take k = LL := ⟨_, rfl⟩
  have hl12 : ∀ p ∈ LL, p.l.length ≤ 1000 := fun p hp => by rw [← hLL] at hp; have := h12 p ((turned l k).mem_iff.1 hp); omega
  have hLL1 : LL.length ≤ 1000 := by rw [← hLL, List.length_append, List.length_drop, List.length_take]; omega
  replace hLL := Lib.hid hLL
  go_cut [8, 9] (fun s t wx => Told nm kd un he LL s t wx ∧ Ext WW wx)
  case first =>
    refine wp_region_held_drew (S := Ext WW) (by kernel_rfl) ((Ext.refl WW).drew) (fun hHeld => ?_)
    refine wpAnyH_take (i := 0) (oi := ?oim301) (v := ?vm301) ?him301 (by kernel_rfl) (by kernel_rfl) (by kernel_rfl) ?hQm301 (Or.inl ⟨?hwm301, ?hym301⟩) hHeld ?restm301
    case him301 => simp only [List.getElem?_toArray, List.getElem?_cons_zero]; rfl
    case hQm301 => exact fun _ _ _ h => h
    case hwm301 => rfl
    case hym301 => (intro w9 hSw; skip; go_simp; (try with_reducible rfl))
    case restm301 =>
    try simp only [Act.put, List.setIfInBounds_toArray, List.set_cons_zero, List.set_cons_succ]
    refine wpAnyH_take (i := 1) (oi := ?oim302) (v := ?vm302) ?him302 (by kernel_rfl) (by kernel_rfl) (by kernel_rfl) ?hQm302 (Or.inl ⟨?hwm302, ?hym302⟩) hHeld ?restm302
    case him302 => simp only [List.getElem?_toArray, List.getElem?_cons_succ, List.getElem?_cons_zero]; rfl
    case hQm302 => exact fun _ _ _ h => h
    case hwm302 => rfl
    case hym302 => (intro w9 hSw; replace c0 := (Ext.cell hSw hBB).trans c0; replace c1 := (Ext.cell hSw hBB).trans c1; replace c2' := (Ext.cell hSw hBB).trans c2'; replace c3 := (Ext.cell hSw hBB).trans c3; replace c4 := (Ext.cell hSw hBB).trans c4; go_simp; (try with_reducible rfl))
    case restm302 =>
    try simp only [Act.put, List.setIfInBounds_toArray, List.set_cons_zero, List.set_cons_succ]
    refine wpAnyH_take (i := 2) (oi := ?oim303) (v := ?vm303) ?him303 (by kernel_rfl) (by kernel_rfl) (by kernel_rfl) ?hQm303 (Or.inl ⟨?hwm303, ?hym303⟩) hHeld ?restm303
    case him303 => simp only [List.getElem?_toArray, List.getElem?_cons_succ, List.getElem?_cons_zero]; rfl
    case hQm303 => exact fun _ _ _ h => h
    case hwm303 => rfl
    case hym303 => (intro w9 hSw; skip; go_simp; (try with_reducible rfl))
    case restm303 =>
    try simp only [Act.put, List.setIfInBounds_toArray, List.set_cons_zero, List.set_cons_succ]
    refine wpAnyH_take (i := 3) (oi := ?oim304) (v := ?vm304) ?him304 (by kernel_rfl) (by kernel_rfl) (by kernel_rfl) ?hQm304 (Or.inl ⟨?hwm304, ?hym304⟩) hHeld ?restm304
    case him304 => simp only [List.getElem?_toArray, List.getElem?_cons_succ, List.getElem?_cons_zero]; rfl
    case hQm304 => exact fun _ _ _ h => h
    case hwm304 => rfl
    case hym304 => (intro w9 hSw; replace c0 := (Ext.cell hSw hBB).trans c0; replace c1 := (Ext.cell hSw hBB).trans c1; replace c2' := (Ext.cell hSw hBB).trans c2'; replace c3 := (Ext.cell hSw hBB).trans c3; replace c4 := (Ext.cell hSw hBB).trans c4; go_simp; (try with_reducible rfl))
    case restm304 =>
    try simp only [Act.put, List.setIfInBounds_toArray, List.set_cons_zero, List.set_cons_succ]
    refine wpAnyH_take (i := 4) (oi := ?oim305) (v := ?vm305) ?him305 (by kernel_rfl) (by kernel_rfl) (by kernel_rfl) ?hQm305 (Or.inl ⟨?hwm305, ?hym305⟩) hHeld ?restm305
    case him305 => simp only [List.getElem?_toArray, List.getElem?_cons_succ, List.getElem?_cons_zero]; rfl
    case hQm305 => exact fun _ _ _ h => h
    case hwm305 => rfl
    case hym305 => (intro w9 hSw; skip; go_simp; (try with_reducible rfl))
    case restm305 =>
    try simp only [Act.put, List.setIfInBounds_toArray, List.set_cons_zero, List.set_cons_succ]
    refine wpAnyH_take (i := 5) (oi := ?oim306) (v := ?vm306) ?him306 (by kernel_rfl) (by kernel_rfl) (by kernel_rfl) ?hQm306 (Or.inl ⟨?hwm306, ?hym306⟩) hHeld ?restm306
    case him306 => simp only [List.getElem?_toArray, List.getElem?_cons_succ, List.getElem?_cons_zero]; rfl
    case hQm306 => exact fun _ _ _ h => h
    case hwm306 => rfl
    case hym306 => (intro w9 hSw; skip; go_simp; (try with_reducible rfl))
    case restm306 =>
    try simp only [Act.put, List.setIfInBounds_toArray, List.set_cons_zero, List.set_cons_succ]
    refine wpAnyH_take (i := 7) (oi := ?oim307) (v := ?vm307) ?him307 (by kernel_rfl) (by kernel_rfl) (by kernel_rfl) ?hQm307 (Or.inl ⟨?hwm307, ?hym307⟩) hHeld ?restm307
    case him307 => simp only [List.getElem?_toArray, List.getElem?_cons_succ, List.getElem?_cons_zero]; rfl
    case hQm307 => exact fun _ _ _ h => h
    case hwm307 => rfl
    case hym307 => (intro w9 hSw; skip; go_simp; (try with_reducible rfl))
    case restm307 =>
    try simp only [Act.put, List.setIfInBounds_toArray, List.set_cons_zero, List.set_cons_succ]
    refine wpAnyH_take (i := 8) (oi := ?oim308) (v := ?vm308) ?him308 (by kernel_rfl) (by kernel_rfl) (by kernel_rfl) ?hQm308 (Or.inl ⟨?hwm308, ?hym308⟩) hHeld ?restm308
    case him308 => simp only [List.getElem?_toArray, List.getElem?_cons_succ, List.getElem?_cons_zero]; rfl
    case hQm308 => exact fun _ _ _ h => h
    case hwm308 => rfl
    case hym308 => (intro w9 hSw; replace c0 := (Ext.cell hSw hBB).trans c0; replace c1 := (Ext.cell hSw hBB).trans c1; replace c2' := (Ext.cell hSw hBB).trans c2'; replace c3 := (Ext.cell hSw hBB).trans c3; replace c4 := (Ext.cell hSw hBB).trans c4; go_simp; (try with_reducible rfl))
    case restm308 =>
    try simp only [Act.put, List.setIfInBounds_toArray, List.set_cons_zero, List.set_cons_succ]
    refine wpAnyH_take (i := 9) (oi := ?oim309) (v := ?vm309) ?him309 (by kernel_rfl) (by kernel_rfl) (by kernel_rfl) ?hQm309 (Or.inl ⟨?hwm309, ?hym309⟩) hHeld ?restm309
    case him309 => simp only [List.getElem?_toArray, List.getElem?_cons_succ, List.getElem?_cons_zero]; rfl
    case hQm309 => exact fun _ _ _ h => h
    case hwm309 => rfl
    case hym309 => (intro w9 hSw; skip; go_simp; (try with_reducible rfl))
    case restm309 =>
    try simp only [Act.put, List.setIfInBounds_toArray, List.set_cons_zero, List.set_cons_succ]
    refine wpAnyH_take (i := 10) (oi := ?oim310) (v := ?vm310) ?him310 (by kernel_rfl) (by kernel_rfl) (by kernel_rfl) ?hQm310 (Or.inl ⟨?hwm310, ?hym310⟩) hHeld ?restm310
    case him310 => simp only [List.getElem?_toArray, List.getElem?_cons_succ, List.getElem?_cons_zero]; rfl
    case hQm310 => exact fun _ _ _ h => h
    case hwm310 => rfl
    case hym310 => (intro w9 hSw; skip; go_simp; (try with_reducible rfl))
    case restm310 =>
    try simp only [Act.put, List.setIfInBounds_toArray, List.set_cons_zero, List.set_cons_succ]
    obtain ⟨w0, hw0⟩ : ∃ x, WW.drew = x := ⟨_, rfl⟩
    rw [hw0] at hHeld ⊢
    clear hw0
    refine wpAnyH_ready (rs := [6, 17]) (by kernel_rfl) (by simp) (AllReadyH.cons (o := ?om311A1) ?im311A1 (fun K hK => ?km311A1) (AllReadyH.cons (o := ?om311AL) ?im311AL (fun K hK => ?km311AL) AllReadyH.nil))
    case im311A1 => simp only [List.getElem?_toArray, List.getElem?_cons_succ, List.getElem?_cons_zero]; rfl
    case im311AL => simp only [List.getElem?_toArray, List.getElem?_cons_succ, List.getElem?_cons_zero]; rfl
    case km311A1 =>
      rw [if_pos (by rfl)]
      have hbW : WW.heap.size ≤ w0.heap.size := hHeld.size
      obtain ⟨v1, wA, ea, ra, xa⟩ := app_nil tyPt (fun _ => rfl) ptC_one (by decide) w0 24 PtD.zero ⟨b, o + k * 9, none⟩ (l.drop k) (l.length - k) (c - k) (PtsA.src ((hP.ext (y2.trans hHeld)).from k)) (by first | rfl | rw [List.length_drop]) (by omega) (by omega) (by omega)
      refine Lib.wp_append_run _ _ _ _ _ rfl _ _ rfl rfl v1 wA ea (hK.out _ _ (hHeld.trans xa) (fun hHeld => ?_))
      clear hK K ea
      try simp only [List.setIfInBounds_toArray, List.set_cons_zero, List.set_cons_succ]
      have hba : w0.heap.size ≤ wA.heap.size := xa.size
      refine wpAnyH_ready (rs := [11, 17]) (by kernel_rfl) (by simp) (AllReadyH.cons (o := ?om312A2) ?im312A2 (fun K hK => ?km312A2) (AllReadyH.cons (o := ?om312AL) ?im312AL (fun K hK => ?km312AL) AllReadyH.nil))
      case im312A2 => simp only [List.getElem?_toArray, List.getElem?_cons_succ, List.getElem?_cons_zero]; rfl
      case im312AL => simp only [List.getElem?_toArray, List.getElem?_cons_succ, List.getElem?_cons_zero]; rfl
      case km312A2 =>
        rw [if_pos (by rfl)]
        obtain ⟨v2, wB, eb, rb, gb, _⟩ := app_row tyPt (fun _ => rfl) ptC_one (by decide) wA 24 PtD.zero w0.heap.size (l.length - k) v1 (l.drop k) ra (by first | rfl | rw [List.length_drop]) (by omega) hba ⟨b, o, none⟩ (l.take k) k c (PtsA.src ((hP.ext (y2.trans hHeld)).upto k)) (by first | rfl | (rw [List.length_take]; omega)) (by omega) (by omega)
        have xb : Ext WW wB := grown_ext' hHeld gb (Nat.le_refl _) (fun g hg => by have := (ra.lt g hg).1; omega)
        refine Lib.wp_append_run _ _ _ _ _ rfl _ _ rfl rfl v2 wB eb (hK.out _ _ xb (fun hHeld => ?_))
        clear hK K eb
        try simp only [List.setIfInBounds_toArray, List.set_cons_zero, List.set_cons_succ]
        obtain ⟨a5, c5, hv5, rp⟩ := rb.ptsA (by (simp only [List.length_append, List.length_drop, List.length_take, List.length_singleton]) <;> omega) (fun p hp => (hP.2 p ((turned l k).mem_iff.1 hp)).ext (y2.trans xb))
        rw [hLL.out] at hv5 rp
        subst hv5
        clear rb
        clear gb ra hba
        refine wpAnyH_take (i := 12) (oi := ?oim313) (v := ?vm313) ?him313 (by kernel_rfl) (by kernel_rfl) (by kernel_rfl) ?hQm313 (Or.inl ⟨?hwm313, ?hym313⟩) hHeld ?restm313
        case him313 => simp only [List.getElem?_toArray, List.getElem?_cons_succ, List.getElem?_cons_zero]; rfl
        case hQm313 => exact fun _ _ _ h => h
        case hwm313 => rfl
        case hym313 => (intro w9 hSw; skip; go_simp; (try with_reducible rfl))
        case restm313 =>
        try simp only [Act.put, List.setIfInBounds_toArray, List.set_cons_zero, List.set_cons_succ]
        refine wpAnyH_ready (rs := [13, 17]) (by kernel_rfl) (by simp) (AllReadyH.cons (o := ?om314C) ?im314C (fun K hK => ?km314C) (AllReadyH.cons (o := ?om314AL) ?im314AL (fun K hK => ?km314AL) AllReadyH.nil))
        case im314C => simp only [List.getElem?_toArray, List.getElem?_cons_succ, List.getElem?_cons_zero]; rfl
        case im314AL => simp only [List.getElem?_toArray, List.getElem?_cons_succ, List.getElem?_cons_zero]; rfl
        case km314C =>
          rw [if_pos (by rfl)]
          go_simp
          have CS := fun W (x : Ext wB W) => famSort_any nm kd un he a5 c5 LL W hLL1 hl12 (rp.ext x)
          go_at_call 10
          (with_reducible refine (CS _ (Ext.refl _)).mono ?_)
          rintro e wC ⟨hs, xc⟩
          obtain ⟨n3, k3, u3, h3, a3, c3', L3, ok3, rfl, rqo, rq, rt⟩ := hs.form
          replace rt := Lib.hid rt
          refine hK.out _ _ (hHeld.trans xc) (fun hHeld => ?_)
          clear hK K CS hs rp
          try simp only [List.setIfInBounds_toArray, List.set_cons_zero, List.set_cons_succ]
          refine wpAnyH_take (i := 14) (oi := ?oim315) (v := ?vm315) ?him315 (by kernel_rfl) (by kernel_rfl) (by kernel_rfl) ?hQm315 (Or.inl ⟨?hwm315, ?hym315⟩) hHeld ?restm315
          case him315 => simp only [List.getElem?_toArray, List.getElem?_cons_succ, List.getElem?_cons_zero]; rfl
          case hQm315 => exact fun _ _ _ h => h
          case hwm315 => rfl
          case hym315 => (intro w9 hSw; skip; go_simp; (try with_reducible rfl))
          case restm315 =>
          try simp only [Act.put, List.setIfInBounds_toArray, List.set_cons_zero, List.set_cons_succ]
          refine wpAnyH_take (i := 15) (oi := ?oim316) (v := ?vm316) ?him316 (by kernel_rfl) (by kernel_rfl) (by kernel_rfl) ?hQm316 (Or.inl ⟨?hwm316, ?hym316⟩) hHeld ?restm316
          case him316 => simp only [List.getElem?_toArray, List.getElem?_cons_succ, List.getElem?_cons_zero]; rfl
          case hQm316 => exact fun _ _ _ h => h
          case hwm316 => rfl
          case hym316 => (intro w9 hSw; skip; go_simp; (try with_reducible rfl))
          case restm316 =>
          try simp only [Act.put, List.setIfInBounds_toArray, List.set_cons_zero, List.set_cons_succ]
          refine wpAnyH_take (i := 16) (oi := ?oim317) (v := ?vm317) ?him317 (by kernel_rfl) (by kernel_rfl) (by kernel_rfl) ?hQm317 (Or.inl ⟨?hwm317, ?hym317⟩) hHeld ?restm317
          case him317 => simp only [List.getElem?_toArray, List.getElem?_cons_succ, List.getElem?_cons_zero]; rfl
          case hQm317 => exact fun _ _ _ h => h
          case hwm317 => rfl
          case hym317 => (intro w9 hSw; skip; go_simp; (try with_reducible rfl))
          case restm317 =>
          try simp only [Act.put, List.setIfInBounds_toArray, List.set_cons_zero, List.set_cons_succ]
          refine wpAnyH_ready (rs := [17]) (by kernel_rfl) (by simp) (AllReadyH.cons (o := ?om318AL) ?im318AL (fun K hK => ?km318AL) AllReadyH.nil)
          case im318AL => simp only [List.getElem?_toArray, List.getElem?_cons_succ, List.getElem?_cons_zero]; rfl
          case km318AL =>
            rw [if_pos (by rfl)]
            go_simp
            have hnW : WW.heap.size ≤ wC.heap.size := hHeld.size
            refine hK.out _ _ (hHeld.alloc _) (fun hHeld => ?_)
            clear hK K
            try simp only [List.setIfInBounds_toArray, List.set_cons_zero, List.set_cons_succ]
            obtain ⟨wN, hwN⟩ : ∃ x, wC.alloc (.cells #[.string ⟨#[]⟩, .int .i64 0, .string ⟨#[]⟩, .string ⟨#[]⟩, .slice none 0 0] 26) = x := ⟨_, rfl⟩
            have xn : Ext wC wN := by rw [← hwN]; exact (Ext.refl _).alloc _
            have al : FamIn wC.heap.size ⟨#[]⟩ 0 ⟨#[]⟩ ⟨#[]⟩ (.slice none 0 0) wN := by rw [← hwN]; exact heap_last _ _
            rw [hwN] at hHeld ⊢
            clear hwN
            refine wpAnyH_ready (rs := [18]) (by kernel_rfl) (by simp) (AllReadyH.cons (o := ?om319ST) ?im319ST (fun K hK => ?km319ST) AllReadyH.nil)
            case im319ST => simp only [List.getElem?_toArray, List.getElem?_cons_succ, List.getElem?_cons_zero]; rfl
            case km319ST =>
              rw [if_pos (by rfl)]
              obtain ⟨d0, d1, d2, d3, d4⟩ := al.cells
              have fr := fun o => al.free o
              go_simp
              refine hK.out _ _ (hHeld.set5 wC.heap.size hnW _ _ _ _ _) (fun hHeld => ?_)
              clear hK K fr d0 d1 d2 d3 d4
              try simp only [List.setIfInBounds_toArray, List.set_cons_zero, List.set_cons_succ]
              replace al := al.stored n3 k3 u3 h3 (.slice a3 L3.length c3')
              have xw := xn.set5 wC.heap.size (Nat.le_refl _) (.string n3) (.int .i64 k3) (.string u3) (.string h3) (.slice a3 L3.length c3')
              refine wpAnyH_take (i := 19) (oi := ?oim320) (v := ?vm320) ?him320 (by kernel_rfl) (by kernel_rfl) (by kernel_rfl) ?hQm320 (Or.inl ⟨?hwm320, ?hym320⟩) hHeld ?restm320
              case him320 => simp only [List.getElem?_toArray, List.getElem?_cons_succ, List.getElem?_cons_zero]; rfl
              case hQm320 => exact fun _ _ _ h => h
              case hwm320 => rfl
              case hym320 => (intro w9 hSw; skip; go_simp; (try with_reducible rfl))
              case restm320 =>
              try simp only [Act.put, List.setIfInBounds_toArray, List.set_cons_zero, List.set_cons_succ]
              refine wpAnyH_done (by kernel_rfl) ?_ _
              go_wp2_with fail
              go_meet
              case rel =>
                exact ⟨⟨_, n3, k3, u3, h3, a3, c3', L3, ok3, rfl, rfl, al, rq.ext xw, rt⟩, hHeld⟩
        case km314AL =>
          rw [if_pos (by rfl)]
          go_simp
          have hnW : WW.heap.size ≤ wB.heap.size := hHeld.size
          refine hK.out _ _ (hHeld.alloc _) (fun hHeld => ?_)
          clear hK K
          try simp only [List.setIfInBounds_toArray, List.set_cons_zero, List.set_cons_succ]
          obtain ⟨wN, hwN⟩ : ∃ x, wB.alloc (.cells #[.string ⟨#[]⟩, .int .i64 0, .string ⟨#[]⟩, .string ⟨#[]⟩, .slice none 0 0] 26) = x := ⟨_, rfl⟩
          have xn : Ext wB wN := by rw [← hwN]; exact (Ext.refl _).alloc _
          have al : FamIn wB.heap.size ⟨#[]⟩ 0 ⟨#[]⟩ ⟨#[]⟩ (.slice none 0 0) wN := by rw [← hwN]; exact heap_last _ _
          rw [hwN] at hHeld ⊢
          clear hwN
          replace rp := rp.ext xn
          refine wpAnyH_ready (rs := [13]) (by kernel_rfl) (by simp) (AllReadyH.cons (o := ?om321C) ?im321C (fun K hK => ?km321C) AllReadyH.nil)
          case im321C => simp only [List.getElem?_toArray, List.getElem?_cons_succ, List.getElem?_cons_zero]; rfl
          case km321C =>
            rw [if_pos (by rfl)]
            go_simp
            have CS := fun W (x : Ext wN W) => famSort_any nm kd un he a5 c5 LL W hLL1 hl12 (rp.ext x)
            go_at_call 10
            (with_reducible refine (CS _ (Ext.refl _)).mono ?_)
            rintro e wC ⟨hs, xc⟩
            obtain ⟨n3, k3, u3, h3, a3, c3', L3, ok3, rfl, rqo, rq, rt⟩ := hs.form
            replace rt := Lib.hid rt
            refine hK.out _ _ (hHeld.trans xc) (fun hHeld => ?_)
            clear hK K CS hs rp
            try simp only [List.setIfInBounds_toArray, List.set_cons_zero, List.set_cons_succ]
            have hnl := (Array.getElem?_eq_some_iff.1 al).1
            replace al := al.ext xc
            refine wpAnyH_take (i := 14) (oi := ?oim322) (v := ?vm322) ?him322 (by kernel_rfl) (by kernel_rfl) (by kernel_rfl) ?hQm322 (Or.inl ⟨?hwm322, ?hym322⟩) hHeld ?restm322
            case him322 => simp only [List.getElem?_toArray, List.getElem?_cons_succ, List.getElem?_cons_zero]; rfl
            case hQm322 => exact fun _ _ _ h => h
            case hwm322 => rfl
            case hym322 => (intro w9 hSw; skip; go_simp; (try with_reducible rfl))
            case restm322 =>
            try simp only [Act.put, List.setIfInBounds_toArray, List.set_cons_zero, List.set_cons_succ]
            refine wpAnyH_take (i := 15) (oi := ?oim323) (v := ?vm323) ?him323 (by kernel_rfl) (by kernel_rfl) (by kernel_rfl) ?hQm323 (Or.inl ⟨?hwm323, ?hym323⟩) hHeld ?restm323
            case him323 => simp only [List.getElem?_toArray, List.getElem?_cons_succ, List.getElem?_cons_zero]; rfl
            case hQm323 => exact fun _ _ _ h => h
            case hwm323 => rfl
            case hym323 => (intro w9 hSw; skip; go_simp; (try with_reducible rfl))
            case restm323 =>
            try simp only [Act.put, List.setIfInBounds_toArray, List.set_cons_zero, List.set_cons_succ]
            refine wpAnyH_take (i := 16) (oi := ?oim324) (v := ?vm324) ?him324 (by kernel_rfl) (by kernel_rfl) (by kernel_rfl) ?hQm324 (Or.inl ⟨?hwm324, ?hym324⟩) hHeld ?restm324
            case him324 => simp only [List.getElem?_toArray, List.getElem?_cons_succ, List.getElem?_cons_zero]; rfl
            case hQm324 => exact fun _ _ _ h => h
            case hwm324 => rfl
            case hym324 => (intro w9 hSw; skip; go_simp; (try with_reducible rfl))
            case restm324 =>
            try simp only [Act.put, List.setIfInBounds_toArray, List.set_cons_zero, List.set_cons_succ]
            refine wpAnyH_ready (rs := [18]) (by kernel_rfl) (by simp) (AllReadyH.cons (o := ?om325ST) ?im325ST (fun K hK => ?km325ST) AllReadyH.nil)
            case im325ST => simp only [List.getElem?_toArray, List.getElem?_cons_succ, List.getElem?_cons_zero]; rfl
            case km325ST =>
              rw [if_pos (by rfl)]
              obtain ⟨d0, d1, d2, d3, d4⟩ := al.cells
              have fr := fun o => al.free o
              go_simp
              refine hK.out _ _ (hHeld.set5 wB.heap.size hnW _ _ _ _ _) (fun hHeld => ?_)
              clear hK K fr d0 d1 d2 d3 d4
              try simp only [List.setIfInBounds_toArray, List.set_cons_zero, List.set_cons_succ]
              replace al := al.stored n3 k3 u3 h3 (.slice a3 L3.length c3')
              replace rqo := rqo.set5 wB.heap.size hnl (.string n3) (.int .i64 k3) (.string u3) (.string h3) (.slice a3 L3.length c3')
              refine wpAnyH_take (i := 19) (oi := ?oim326) (v := ?vm326) ?him326 (by kernel_rfl) (by kernel_rfl) (by kernel_rfl) ?hQm326 (Or.inl ⟨?hwm326, ?hym326⟩) hHeld ?restm326
              case him326 => simp only [List.getElem?_toArray, List.getElem?_cons_succ, List.getElem?_cons_zero]; rfl
              case hQm326 => exact fun _ _ _ h => h
              case hwm326 => rfl
              case hym326 => (intro w9 hSw; skip; go_simp; (try with_reducible rfl))
              case restm326 =>
              try simp only [Act.put, List.setIfInBounds_toArray, List.set_cons_zero, List.set_cons_succ]
              refine wpAnyH_done (by kernel_rfl) ?_ _
              go_wp2_with fail
              go_meet
              case rel =>
                obtain ⟨a4, c4', hv4, rq4⟩ := rqo.pts
                injection hv4 with e1 e2 e3
                subst e1 e3
                exact ⟨⟨_, n3, k3, u3, h3, _, _, L3, ok3, rfl, rfl, al, rq4, rt⟩, hHeld⟩
      case km312AL =>
        rw [if_pos (by rfl)]
        go_simp
        have hnW : WW.heap.size ≤ wA.heap.size := hHeld.size
        refine hK.out _ _ (hHeld.alloc _) (fun hHeld => ?_)
        clear hK K
        try simp only [List.setIfInBounds_toArray, List.set_cons_zero, List.set_cons_succ]
        obtain ⟨wN, hwN⟩ : ∃ x, wA.alloc (.cells #[.string ⟨#[]⟩, .int .i64 0, .string ⟨#[]⟩, .string ⟨#[]⟩, .slice none 0 0] 26) = x := ⟨_, rfl⟩
        have xn : Ext wA wN := by rw [← hwN]; exact (Ext.refl _).alloc _
        have al : FamIn wA.heap.size ⟨#[]⟩ 0 ⟨#[]⟩ ⟨#[]⟩ (.slice none 0 0) wN := by rw [← hwN]; exact heap_last _ _
        rw [hwN] at hHeld ⊢
        clear hwN
        have nv : ∀ g, v1.ownBlock = some g → wA.heap.size ≠ g := fun g hg => by have := (ra.lt g hg).2; omega
        replace ra := ra.ext xn
        replace hba := Nat.le_trans hba xn.size
        refine wpAnyH_ready (rs := [11]) (by kernel_rfl) (by simp) (AllReadyH.cons (o := ?om327A2) ?im327A2 (fun K hK => ?km327A2) AllReadyH.nil)
        case im327A2 => simp only [List.getElem?_toArray, List.getElem?_cons_succ, List.getElem?_cons_zero]; rfl
        case km327A2 =>
          rw [if_pos (by rfl)]
          obtain ⟨v2, wB, eb, rb, gb, _⟩ := app_row tyPt (fun _ => rfl) ptC_one (by decide) wN 24 PtD.zero w0.heap.size (l.length - k) v1 (l.drop k) ra (by first | rfl | rw [List.length_drop]) (by omega) hba ⟨b, o, none⟩ (l.take k) k c (PtsA.src ((hP.ext (y2.trans hHeld)).upto k)) (by first | rfl | (rw [List.length_take]; omega)) (by omega) (by omega)
          have xb : Ext WW wB := grown_ext' hHeld gb (Nat.le_refl _) (fun g hg => by have := (ra.lt g hg).1; omega)
          refine Lib.wp_append_run _ _ _ _ _ rfl _ _ rfl rfl v2 wB eb (hK.out _ _ xb (fun hHeld => ?_))
          clear hK K eb
          try simp only [List.setIfInBounds_toArray, List.set_cons_zero, List.set_cons_succ]
          obtain ⟨a5, c5, hv5, rp⟩ := rb.ptsA (by (simp only [List.length_append, List.length_drop, List.length_take, List.length_singleton]) <;> omega) (fun p hp => (hP.2 p ((turned l k).mem_iff.1 hp)).ext (y2.trans xb))
          rw [hLL.out] at hv5 rp
          subst hv5
          clear rb
          replace al := al.grown gb (fun g hg => nv g hg)
          clear nv
          clear gb ra hba
          refine wpAnyH_take (i := 12) (oi := ?oim328) (v := ?vm328) ?him328 (by kernel_rfl) (by kernel_rfl) (by kernel_rfl) ?hQm328 (Or.inl ⟨?hwm328, ?hym328⟩) hHeld ?restm328
          case him328 => simp only [List.getElem?_toArray, List.getElem?_cons_succ, List.getElem?_cons_zero]; rfl
          case hQm328 => exact fun _ _ _ h => h
          case hwm328 => rfl
          case hym328 => (intro w9 hSw; skip; go_simp; (try with_reducible rfl))
          case restm328 =>
          try simp only [Act.put, List.setIfInBounds_toArray, List.set_cons_zero, List.set_cons_succ]
          refine wpAnyH_ready (rs := [13]) (by kernel_rfl) (by simp) (AllReadyH.cons (o := ?om329C) ?im329C (fun K hK => ?km329C) AllReadyH.nil)
          case im329C => simp only [List.getElem?_toArray, List.getElem?_cons_succ, List.getElem?_cons_zero]; rfl
          case km329C =>
            rw [if_pos (by rfl)]
            go_simp
            have CS := fun W (x : Ext wB W) => famSort_any nm kd un he a5 c5 LL W hLL1 hl12 (rp.ext x)
            go_at_call 10
            (with_reducible refine (CS _ (Ext.refl _)).mono ?_)
            rintro e wC ⟨hs, xc⟩
            obtain ⟨n3, k3, u3, h3, a3, c3', L3, ok3, rfl, rqo, rq, rt⟩ := hs.form
            replace rt := Lib.hid rt
            refine hK.out _ _ (hHeld.trans xc) (fun hHeld => ?_)
            clear hK K CS hs rp
            try simp only [List.setIfInBounds_toArray, List.set_cons_zero, List.set_cons_succ]
            have hnl := (Array.getElem?_eq_some_iff.1 al).1
            replace al := al.ext xc
            refine wpAnyH_take (i := 14) (oi := ?oim330) (v := ?vm330) ?him330 (by kernel_rfl) (by kernel_rfl) (by kernel_rfl) ?hQm330 (Or.inl ⟨?hwm330, ?hym330⟩) hHeld ?restm330
            case him330 => simp only [List.getElem?_toArray, List.getElem?_cons_succ, List.getElem?_cons_zero]; rfl
            case hQm330 => exact fun _ _ _ h => h
            case hwm330 => rfl
            case hym330 => (intro w9 hSw; skip; go_simp; (try with_reducible rfl))
            case restm330 =>
            try simp only [Act.put, List.setIfInBounds_toArray, List.set_cons_zero, List.set_cons_succ]
            refine wpAnyH_take (i := 15) (oi := ?oim331) (v := ?vm331) ?him331 (by kernel_rfl) (by kernel_rfl) (by kernel_rfl) ?hQm331 (Or.inl ⟨?hwm331, ?hym331⟩) hHeld ?restm331
            case him331 => simp only [List.getElem?_toArray, List.getElem?_cons_succ, List.getElem?_cons_zero]; rfl
            case hQm331 => exact fun _ _ _ h => h
            case hwm331 => rfl
            case hym331 => (intro w9 hSw; skip; go_simp; (try with_reducible rfl))
            case restm331 =>
            try simp only [Act.put, List.setIfInBounds_toArray, List.set_cons_zero, List.set_cons_succ]
            refine wpAnyH_take (i := 16) (oi := ?oim332) (v := ?vm332) ?him332 (by kernel_rfl) (by kernel_rfl) (by kernel_rfl) ?hQm332 (Or.inl ⟨?hwm332, ?hym332⟩) hHeld ?restm332
            case him332 => simp only [List.getElem?_toArray, List.getElem?_cons_succ, List.getElem?_cons_zero]; rfl
            case hQm332 => exact fun _ _ _ h => h
            case hwm332 => rfl
            case hym332 => (intro w9 hSw; skip; go_simp; (try with_reducible rfl))
            case restm332 =>
            try simp only [Act.put, List.setIfInBounds_toArray, List.set_cons_zero, List.set_cons_succ]
            refine wpAnyH_ready (rs := [18]) (by kernel_rfl) (by simp) (AllReadyH.cons (o := ?om333ST) ?im333ST (fun K hK => ?km333ST) AllReadyH.nil)
            case im333ST => simp only [List.getElem?_toArray, List.getElem?_cons_succ, List.getElem?_cons_zero]; rfl
            case km333ST =>
              rw [if_pos (by rfl)]
              obtain ⟨d0, d1, d2, d3, d4⟩ := al.cells
              have fr := fun o => al.free o
              go_simp
              refine hK.out _ _ (hHeld.set5 wA.heap.size hnW _ _ _ _ _) (fun hHeld => ?_)
              clear hK K fr d0 d1 d2 d3 d4
              try simp only [List.setIfInBounds_toArray, List.set_cons_zero, List.set_cons_succ]
              replace al := al.stored n3 k3 u3 h3 (.slice a3 L3.length c3')
              replace rqo := rqo.set5 wA.heap.size hnl (.string n3) (.int .i64 k3) (.string u3) (.string h3) (.slice a3 L3.length c3')
              refine wpAnyH_take (i := 19) (oi := ?oim334) (v := ?vm334) ?him334 (by kernel_rfl) (by kernel_rfl) (by kernel_rfl) ?hQm334 (Or.inl ⟨?hwm334, ?hym334⟩) hHeld ?restm334
              case him334 => simp only [List.getElem?_toArray, List.getElem?_cons_succ, List.getElem?_cons_zero]; rfl
              case hQm334 => exact fun _ _ _ h => h
              case hwm334 => rfl
              case hym334 => (intro w9 hSw; skip; go_simp; (try with_reducible rfl))
              case restm334 =>
              try simp only [Act.put, List.setIfInBounds_toArray, List.set_cons_zero, List.set_cons_succ]
              refine wpAnyH_done (by kernel_rfl) ?_ _
              go_wp2_with fail
              go_meet
              case rel =>
                obtain ⟨a4, c4', hv4, rq4⟩ := rqo.pts
                injection hv4 with e1 e2 e3
                subst e1 e3
                exact ⟨⟨_, n3, k3, u3, h3, _, _, L3, ok3, rfl, rfl, al, rq4, rt⟩, hHeld⟩
    case km311AL =>
      rw [if_pos (by rfl)]
      go_simp
      have hnW : WW.heap.size ≤ w0.heap.size := hHeld.size
      refine hK.out _ _ (hHeld.alloc _) (fun hHeld => ?_)
      clear hK K
      try simp only [List.setIfInBounds_toArray, List.set_cons_zero, List.set_cons_succ]
      obtain ⟨wN, hwN⟩ : ∃ x, w0.alloc (.cells #[.string ⟨#[]⟩, .int .i64 0, .string ⟨#[]⟩, .string ⟨#[]⟩, .slice none 0 0] 26) = x := ⟨_, rfl⟩
      have xn : Ext w0 wN := by rw [← hwN]; exact (Ext.refl _).alloc _
      have al : FamIn w0.heap.size ⟨#[]⟩ 0 ⟨#[]⟩ ⟨#[]⟩ (.slice none 0 0) wN := by rw [← hwN]; exact heap_last _ _
      rw [hwN] at hHeld ⊢
      clear hwN
      refine wpAnyH_ready (rs := [6]) (by kernel_rfl) (by simp) (AllReadyH.cons (o := ?om335A1) ?im335A1 (fun K hK => ?km335A1) AllReadyH.nil)
      case im335A1 => simp only [List.getElem?_toArray, List.getElem?_cons_succ, List.getElem?_cons_zero]; rfl
      case km335A1 =>
        rw [if_pos (by rfl)]
        have hbW : WW.heap.size ≤ wN.heap.size := hHeld.size
        obtain ⟨v1, wA, ea, ra, xa⟩ := app_nil tyPt (fun _ => rfl) ptC_one (by decide) wN 24 PtD.zero ⟨b, o + k * 9, none⟩ (l.drop k) (l.length - k) (c - k) (PtsA.src ((hP.ext (y2.trans hHeld)).from k)) (by first | rfl | rw [List.length_drop]) (by omega) (by omega) (by omega)
        refine Lib.wp_append_run _ _ _ _ _ rfl _ _ rfl rfl v1 wA ea (hK.out _ _ (hHeld.trans xa) (fun hHeld => ?_))
        clear hK K ea
        try simp only [List.setIfInBounds_toArray, List.set_cons_zero, List.set_cons_succ]
        have hba : wN.heap.size ≤ wA.heap.size := xa.size
        have hnl := (Array.getElem?_eq_some_iff.1 al).1
        have nv : ∀ g, v1.ownBlock = some g → w0.heap.size ≠ g := fun g hg => by have := (ra.lt g hg).1; omega
        replace al := al.ext xa
        refine wpAnyH_ready (rs := [11]) (by kernel_rfl) (by simp) (AllReadyH.cons (o := ?om336A2) ?im336A2 (fun K hK => ?km336A2) AllReadyH.nil)
        case im336A2 => simp only [List.getElem?_toArray, List.getElem?_cons_succ, List.getElem?_cons_zero]; rfl
        case km336A2 =>
          rw [if_pos (by rfl)]
          obtain ⟨v2, wB, eb, rb, gb, _⟩ := app_row tyPt (fun _ => rfl) ptC_one (by decide) wA 24 PtD.zero wN.heap.size (l.length - k) v1 (l.drop k) ra (by first | rfl | rw [List.length_drop]) (by omega) hba ⟨b, o, none⟩ (l.take k) k c (PtsA.src ((hP.ext (y2.trans hHeld)).upto k)) (by first | rfl | (rw [List.length_take]; omega)) (by omega) (by omega)
          have xb : Ext WW wB := grown_ext' hHeld gb (Nat.le_refl _) (fun g hg => by have := (ra.lt g hg).1; omega)
          refine Lib.wp_append_run _ _ _ _ _ rfl _ _ rfl rfl v2 wB eb (hK.out _ _ xb (fun hHeld => ?_))
          clear hK K eb
          try simp only [List.setIfInBounds_toArray, List.set_cons_zero, List.set_cons_succ]
          obtain ⟨a5, c5, hv5, rp⟩ := rb.ptsA (by (simp only [List.length_append, List.length_drop, List.length_take, List.length_singleton]) <;> omega) (fun p hp => (hP.2 p ((turned l k).mem_iff.1 hp)).ext (y2.trans xb))
          rw [hLL.out] at hv5 rp
          subst hv5
          clear rb
          replace al := al.grown gb (fun g hg => nv g hg)
          clear nv
          clear gb ra hba
          refine wpAnyH_take (i := 12) (oi := ?oim337) (v := ?vm337) ?him337 (by kernel_rfl) (by kernel_rfl) (by kernel_rfl) ?hQm337 (Or.inl ⟨?hwm337, ?hym337⟩) hHeld ?restm337
          case him337 => simp only [List.getElem?_toArray, List.getElem?_cons_succ, List.getElem?_cons_zero]; rfl
          case hQm337 => exact fun _ _ _ h => h
          case hwm337 => rfl
          case hym337 => (intro w9 hSw; skip; go_simp; (try with_reducible rfl))
          case restm337 =>
          try simp only [Act.put, List.setIfInBounds_toArray, List.set_cons_zero, List.set_cons_succ]
          refine wpAnyH_ready (rs := [13]) (by kernel_rfl) (by simp) (AllReadyH.cons (o := ?om338C) ?im338C (fun K hK => ?km338C) AllReadyH.nil)
          case im338C => simp only [List.getElem?_toArray, List.getElem?_cons_succ, List.getElem?_cons_zero]; rfl
          case km338C =>
            rw [if_pos (by rfl)]
            go_simp
            have CS := fun W (x : Ext wB W) => famSort_any nm kd un he a5 c5 LL W hLL1 hl12 (rp.ext x)
            go_at_call 10
            (with_reducible refine (CS _ (Ext.refl _)).mono ?_)
            rintro e wC ⟨hs, xc⟩
            obtain ⟨n3, k3, u3, h3, a3, c3', L3, ok3, rfl, rqo, rq, rt⟩ := hs.form
            replace rt := Lib.hid rt
            refine hK.out _ _ (hHeld.trans xc) (fun hHeld => ?_)
            clear hK K CS hs rp
            try simp only [List.setIfInBounds_toArray, List.set_cons_zero, List.set_cons_succ]
            have hnl := (Array.getElem?_eq_some_iff.1 al).1
            replace al := al.ext xc
            refine wpAnyH_take (i := 14) (oi := ?oim339) (v := ?vm339) ?him339 (by kernel_rfl) (by kernel_rfl) (by kernel_rfl) ?hQm339 (Or.inl ⟨?hwm339, ?hym339⟩) hHeld ?restm339
            case him339 => simp only [List.getElem?_toArray, List.getElem?_cons_succ, List.getElem?_cons_zero]; rfl
            case hQm339 => exact fun _ _ _ h => h
            case hwm339 => rfl
            case hym339 => (intro w9 hSw; skip; go_simp; (try with_reducible rfl))
            case restm339 =>
            try simp only [Act.put, List.setIfInBounds_toArray, List.set_cons_zero, List.set_cons_succ]
            refine wpAnyH_take (i := 15) (oi := ?oim340) (v := ?vm340) ?him340 (by kernel_rfl) (by kernel_rfl) (by kernel_rfl) ?hQm340 (Or.inl ⟨?hwm340, ?hym340⟩) hHeld ?restm340
            case him340 => simp only [List.getElem?_toArray, List.getElem?_cons_succ, List.getElem?_cons_zero]; rfl
            case hQm340 => exact fun _ _ _ h => h
            case hwm340 => rfl
            case hym340 => (intro w9 hSw; skip; go_simp; (try with_reducible rfl))
            case restm340 =>
            try simp only [Act.put, List.setIfInBounds_toArray, List.set_cons_zero, List.set_cons_succ]
            refine wpAnyH_take (i := 16) (oi := ?oim341) (v := ?vm341) ?him341 (by kernel_rfl) (by kernel_rfl) (by kernel_rfl) ?hQm341 (Or.inl ⟨?hwm341, ?hym341⟩) hHeld ?restm341
            case him341 => simp only [List.getElem?_toArray, List.getElem?_cons_succ, List.getElem?_cons_zero]; rfl
            case hQm341 => exact fun _ _ _ h => h
            case hwm341 => rfl
            case hym341 => (intro w9 hSw; skip; go_simp; (try with_reducible rfl))
            case restm341 =>
            try simp only [Act.put, List.setIfInBounds_toArray, List.set_cons_zero, List.set_cons_succ]
            refine wpAnyH_ready (rs := [18]) (by kernel_rfl) (by simp) (AllReadyH.cons (o := ?om342ST) ?im342ST (fun K hK => ?km342ST) AllReadyH.nil)
            case im342ST => simp only [List.getElem?_toArray, List.getElem?_cons_succ, List.getElem?_cons_zero]; rfl
            case km342ST =>
              rw [if_pos (by rfl)]
              obtain ⟨d0, d1, d2, d3, d4⟩ := al.cells
              have fr := fun o => al.free o
              go_simp
              refine hK.out _ _ (hHeld.set5 w0.heap.size hnW _ _ _ _ _) (fun hHeld => ?_)
              clear hK K fr d0 d1 d2 d3 d4
              try simp only [List.setIfInBounds_toArray, List.set_cons_zero, List.set_cons_succ]
              replace al := al.stored n3 k3 u3 h3 (.slice a3 L3.length c3')
              replace rqo := rqo.set5 w0.heap.size hnl (.string n3) (.int .i64 k3) (.string u3) (.string h3) (.slice a3 L3.length c3')
              refine wpAnyH_take (i := 19) (oi := ?oim343) (v := ?vm343) ?him343 (by kernel_rfl) (by kernel_rfl) (by kernel_rfl) ?hQm343 (Or.inl ⟨?hwm343, ?hym343⟩) hHeld ?restm343
              case him343 => simp only [List.getElem?_toArray, List.getElem?_cons_succ, List.getElem?_cons_zero]; rfl
              case hQm343 => exact fun _ _ _ h => h
              case hwm343 => rfl
              case hym343 => (intro w9 hSw; skip; go_simp; (try with_reducible rfl))
              case restm343 =>
              try simp only [Act.put, List.setIfInBounds_toArray, List.set_cons_zero, List.set_cons_succ]
              refine wpAnyH_done (by kernel_rfl) ?_ _
              go_wp2_with fail
              go_meet
              case rel =>
                obtain ⟨a4, c4', hv4, rq4⟩ := rqo.pts
                injection hv4 with e1 e2 e3
                subst e1 e3
                exact ⟨⟨_, n3, k3, u3, h3, _, _, L3, ok3, rfl, rfl, al, rq4, rt⟩, hHeld⟩
  case rest =>
  obtain ⟨⟨nT, n3, k3, u3, h3, a3, c3', L3, ok3, rfl, rfl, gT, hP3, rT⟩, y3⟩ := hcut
  clear hl12 hLL1
  replace gA := gA.ext y3
  replace g1 := g1.ext y3
  replace hPL := hPL.ext (y2.trans y3)
  replace hP := hP.ext (y2.trans y3)
  replace z1 := z1.trans (y2.trans y3)
  clear c0 c1 c2' c3 c4 y2 y3 hb hBB hPP
  obtain ⟨c0, c1, c2', c3, c4⟩ := g1.cells
  obtain ⟨b', o', hAe, hbb, hPP⟩ := hP.1 hlpos
  injection hAe with hAe
  injection hAe with e1 e2
  subst e1 e2
  have hok := hP.2 _ (List.getElem_mem hkl)
  have hpm := List.getElem_mem hkl
  obtain ⟨p0, p1, p2, p3, p4, p5, p6, p7, p8⟩ := hPP k hkl
  generalize l[k] = p at *
  clear hPP
  have y2 := Ext.refl wc
  have hBB : B < wc.heap.size := (Array.getElem?_eq_some_iff.1 g1).1
  obtain ⟨LM, hLM⟩ : ∃ LM, l ++ [p] = LM := ⟨_, rfl⟩
  have hl12 : ∀ q ∈ LM, q.l.length ≤ 1000 := fun q hq => by
    rw [← hLM] at hq
    rcases List.mem_append.1 hq with hq | hq
    · have := h12 q hq; omega
    · rw [List.mem_singleton] at hq
      rw [hq]
      have := h12 p hpm; omega
  have hLM1 : LM.length ≤ 1000 := by rw [← hLM, List.length_append, List.length_singleton]; omega
  replace hLM := Lib.hid hLM
  go_upto_region 8 with fail
  go_cut [10, 11] (fun s t wx => Told nm kd un he LM s t wx ∧ Ext wc wx)
  case first =>
    refine wp_region_held_drew (S := Ext wc) (by kernel_rfl) ((Ext.refl wc).drew) (fun hHeld => ?_)
    refine wpAnyH_take (i := 0) (oi := ?oim344) (v := ?vm344) ?him344 (by kernel_rfl) (by kernel_rfl) (by kernel_rfl) ?hQm344 (Or.inl ⟨?hwm344, ?hym344⟩) hHeld ?restm344
    case him344 => simp only [List.getElem?_toArray, List.getElem?_cons_zero]; rfl
    case hQm344 => exact fun _ _ _ h => h
    case hwm344 => rfl
    case hym344 => (intro w9 hSw; skip; go_simp; (try with_reducible rfl))
    case restm344 =>
    try simp only [Act.put, List.setIfInBounds_toArray, List.set_cons_zero, List.set_cons_succ]
    refine wpAnyH_take (i := 1) (oi := ?oim345) (v := ?vm345) ?him345 (by kernel_rfl) (by kernel_rfl) (by kernel_rfl) ?hQm345 (Or.inl ⟨?hwm345, ?hym345⟩) hHeld ?restm345
    case him345 => simp only [List.getElem?_toArray, List.getElem?_cons_succ, List.getElem?_cons_zero]; rfl
    case hQm345 => exact fun _ _ _ h => h
    case hwm345 => rfl
    case hym345 => (intro w9 hSw; replace c0 := (Ext.cell hSw hBB).trans c0; replace c1 := (Ext.cell hSw hBB).trans c1; replace c2' := (Ext.cell hSw hBB).trans c2'; replace c3 := (Ext.cell hSw hBB).trans c3; replace c4 := (Ext.cell hSw hBB).trans c4; go_simp; (try with_reducible rfl))
    case restm345 =>
    try simp only [Act.put, List.setIfInBounds_toArray, List.set_cons_zero, List.set_cons_succ]
    refine wpAnyH_take (i := 2) (oi := ?oim346) (v := ?vm346) ?him346 (by kernel_rfl) (by kernel_rfl) (by kernel_rfl) ?hQm346 (Or.inl ⟨?hwm346, ?hym346⟩) hHeld ?restm346
    case him346 => simp only [List.getElem?_toArray, List.getElem?_cons_succ, List.getElem?_cons_zero]; rfl
    case hQm346 => exact fun _ _ _ h => h
    case hwm346 => rfl
    case hym346 => (intro w9 hSw; skip; go_simp; (try with_reducible rfl))
    case restm346 =>
    try simp only [Act.put, List.setIfInBounds_toArray, List.set_cons_zero, List.set_cons_succ]
    refine wpAnyH_take (i := 3) (oi := ?oim347) (v := ?vm347) ?him347 (by kernel_rfl) (by kernel_rfl) (by kernel_rfl) ?hQm347 (Or.inl ⟨?hwm347, ?hym347⟩) hHeld ?restm347
    case him347 => simp only [List.getElem?_toArray, List.getElem?_cons_succ, List.getElem?_cons_zero]; rfl
    case hQm347 => exact fun _ _ _ h => h
    case hwm347 => rfl
    case hym347 => (intro w9 hSw; replace c0 := (Ext.cell hSw hBB).trans c0; replace c1 := (Ext.cell hSw hBB).trans c1; replace c2' := (Ext.cell hSw hBB).trans c2'; replace c3 := (Ext.cell hSw hBB).trans c3; replace c4 := (Ext.cell hSw hBB).trans c4; go_simp; (try with_reducible rfl))
    case restm347 =>
    try simp only [Act.put, List.setIfInBounds_toArray, List.set_cons_zero, List.set_cons_succ]
    refine wpAnyH_take (i := 5) (oi := ?oim348) (v := ?vm348) ?him348 (by kernel_rfl) (by kernel_rfl) (by kernel_rfl) ?hQm348 (Or.inl ⟨?hwm348, ?hym348⟩) hHeld ?restm348
    case him348 => simp only [List.getElem?_toArray, List.getElem?_cons_succ, List.getElem?_cons_zero]; rfl
    case hQm348 => exact fun _ _ _ h => h
    case hwm348 => rfl
    case hym348 => (intro w9 hSw; skip; go_simp; (try with_reducible rfl))
    case restm348 =>
    try simp only [Act.put, List.setIfInBounds_toArray, List.set_cons_zero, List.set_cons_succ]
    refine wpAnyH_take (i := 6) (oi := ?oim349) (v := ?vm349) ?him349 (by kernel_rfl) (by kernel_rfl) (by kernel_rfl) ?hQm349 (Or.inl ⟨?hwm349, ?hym349⟩) hHeld ?restm349
    case him349 => simp only [List.getElem?_toArray, List.getElem?_cons_succ, List.getElem?_cons_zero]; rfl
    case hQm349 => exact fun _ _ _ h => h
    case hwm349 => rfl
    case hym349 => (intro w9 hSw; replace c0 := (Ext.cell hSw hBB).trans c0; replace c1 := (Ext.cell hSw hBB).trans c1; replace c2' := (Ext.cell hSw hBB).trans c2'; replace c3 := (Ext.cell hSw hBB).trans c3; replace c4 := (Ext.cell hSw hBB).trans c4; go_simp; (try with_reducible rfl))
    case restm349 =>
    try simp only [Act.put, List.setIfInBounds_toArray, List.set_cons_zero, List.set_cons_succ]
    refine wpAnyH_take (i := 7) (oi := ?oim350) (v := ?vm350) ?him350 (by kernel_rfl) (by kernel_rfl) (by kernel_rfl) ?hQm350 (Or.inl ⟨?hwm350, ?hym350⟩) hHeld ?restm350
    case him350 => simp only [List.getElem?_toArray, List.getElem?_cons_succ, List.getElem?_cons_zero]; rfl
    case hQm350 => exact fun _ _ _ h => h
    case hwm350 => rfl
    case hym350 => (intro w9 hSw; skip; go_simp; (try with_reducible rfl))
    case restm350 =>
    try simp only [Act.put, List.setIfInBounds_toArray, List.set_cons_zero, List.set_cons_succ]
    refine wpAnyH_take (i := 8) (oi := ?oim351) (v := ?vm351) ?him351 (by kernel_rfl) (by kernel_rfl) (by kernel_rfl) ?hQm351 (Or.inl ⟨?hwm351, ?hym351⟩) hHeld ?restm351
    case him351 => simp only [List.getElem?_toArray, List.getElem?_cons_succ, List.getElem?_cons_zero]; rfl
    case hQm351 => exact fun _ _ _ h => h
    case hwm351 => rfl
    case hym351 => (intro w9 hSw; skip; go_simp; (try with_reducible rfl))
    case restm351 =>
    try simp only [Act.put, List.setIfInBounds_toArray, List.set_cons_zero, List.set_cons_succ]
    refine wpAnyH_take (i := 9) (oi := ?oim352) (v := ?vm352) ?him352 (by kernel_rfl) (by kernel_rfl) (by kernel_rfl) ?hQm352 (Or.inl ⟨?hwm352, ?hym352⟩) hHeld ?restm352
    case him352 => simp only [List.getElem?_toArray, List.getElem?_cons_succ, List.getElem?_cons_zero]; rfl
    case hQm352 => exact fun _ _ _ h => h
    case hwm352 => rfl
    case hym352 => (intro w9 hSw; replace p0 := (Ext.cell hSw hbb).trans p0; replace p1 := (Ext.cell hSw hbb).trans p1; replace p2 := (Ext.cell hSw hbb).trans p2; replace p3 := (Ext.cell hSw hbb).trans p3; replace p4 := (Ext.cell hSw hbb).trans p4; replace p5 := (Ext.cell hSw hbb).trans p5; replace p6 := (Ext.cell hSw hbb).trans p6; replace p7 := (Ext.cell hSw hbb).trans p7; replace p8 := (Ext.cell hSw hbb).trans p8; go_simp; (try with_reducible rfl))
    case restm352 =>
    try simp only [Act.put, List.setIfInBounds_toArray, List.set_cons_zero, List.set_cons_succ]
    obtain ⟨w0, hw0⟩ : ∃ x, wc.drew = x := ⟨_, rfl⟩
    rw [hw0] at hHeld ⊢
    clear hw0
    refine wpAnyH_ready (rs := [4, 10, 17]) (by kernel_rfl) (by simp) (AllReadyH.cons (o := ?om353A1) ?im353A1 (fun K hK => ?km353A1) (AllReadyH.cons (o := ?om353BS) ?im353BS (fun K hK => ?km353BS) (AllReadyH.cons (o := ?om353AL) ?im353AL (fun K hK => ?km353AL) AllReadyH.nil)))
    case im353A1 => simp only [List.getElem?_toArray, List.getElem?_cons_succ, List.getElem?_cons_zero]; rfl
    case im353BS => simp only [List.getElem?_toArray, List.getElem?_cons_succ, List.getElem?_cons_zero]; rfl
    case im353AL => simp only [List.getElem?_toArray, List.getElem?_cons_succ, List.getElem?_cons_zero]; rfl
    case km353A1 =>
      rw [if_pos (by rfl)]
      have hbW : wc.heap.size ≤ w0.heap.size := hHeld.size
      obtain ⟨v1, wA, ea, ra, xa⟩ := app_nil tyPt (fun _ => rfl) ptC_one (by decide) w0 24 PtD.zero ⟨b, o, none⟩ l l.length c (PtsA.src (hP.ext (y2.trans hHeld))) (by first | rfl | rw [List.length_drop]) (by omega) (by omega) (by omega)
      refine Lib.wp_append_run _ _ _ _ _ rfl _ _ rfl rfl v1 wA ea (hK.out _ _ (hHeld.trans xa) (fun hHeld => ?_))
      clear hK K ea
      try simp only [List.setIfInBounds_toArray, List.set_cons_zero, List.set_cons_succ]
      have hba : w0.heap.size ≤ wA.heap.size := xa.size
      refine wpAnyH_ready (rs := [10, 17]) (by kernel_rfl) (by simp) (AllReadyH.cons (o := ?om354BS) ?im354BS (fun K hK => ?km354BS) (AllReadyH.cons (o := ?om354AL) ?im354AL (fun K hK => ?km354AL) AllReadyH.nil))
      case im354BS => simp only [List.getElem?_toArray, List.getElem?_cons_succ, List.getElem?_cons_zero]; rfl
      case im354AL => simp only [List.getElem?_toArray, List.getElem?_cons_succ, List.getElem?_cons_zero]; rfl
      case km354BS =>
        rw [if_pos (by rfl)]
        go_simp
        refine hK.out _ _ (hHeld.alloc _) (fun hHeld => ?_)
        clear hK K
        try simp only [List.setIfInBounds_toArray, List.set_cons_zero, List.set_cons_succ]
        obtain ⟨wS, hwS⟩ : ∃ x, wA.alloc (.cells #[.slice p.a p.l.length p.c, .int .i64 p.r, .bool p.f, .int .i64 p.M, .int .i64 p.S, .int .i64 p.m, .int .i64 p.s, .bool p.t, .int .i64 p.T] 35) = x := ⟨_, rfl⟩
        have xs : Ext wA wS := by rw [← hwS]; exact (Ext.refl _).alloc _
        have rs : PtsA (some ⟨wA.heap.size, 0, none⟩) [p] wS := by rw [← hwS]; exact PtsA.one (heap_last _ _) (by rw [hwS]; rw [hwS] at hHeld; exact hok.ext (y2.trans hHeld)) 
        rw [hwS] at hHeld ⊢
        clear hwS
        replace ra := ra.ext xs
        replace hba := Nat.le_trans hba xs.size
        refine wpAnyH_ready (rs := [11, 17]) (by kernel_rfl) (by simp) (AllReadyH.cons (o := ?om355A2) ?im355A2 (fun K hK => ?km355A2) (AllReadyH.cons (o := ?om355AL) ?im355AL (fun K hK => ?km355AL) AllReadyH.nil))
        case im355A2 => simp only [List.getElem?_toArray, List.getElem?_cons_succ, List.getElem?_cons_zero]; rfl
        case im355AL => simp only [List.getElem?_toArray, List.getElem?_cons_succ, List.getElem?_cons_zero]; rfl
        case km355A2 =>
          rw [if_pos (by rfl)]
          obtain ⟨v2, wB, eb, rb, gb, _⟩ := app_row tyPt (fun _ => rfl) ptC_one (by decide) wS 24 PtD.zero w0.heap.size l.length v1 l ra (by first | rfl | rw [List.length_drop]) (by omega) hba ⟨wA.heap.size, 0, none⟩ [p] 1 1 (PtsA.src (rs)) (by first | rfl | (rw [List.length_take]; omega)) (by omega) (by omega)
          have xb : Ext wc wB := grown_ext' hHeld gb (Nat.le_refl _) (fun g hg => by have := (ra.lt g hg).1; omega)
          refine Lib.wp_append_run _ _ _ _ _ rfl _ _ rfl rfl v2 wB eb (hK.out _ _ xb (fun hHeld => ?_))
          clear hK K eb
          try simp only [List.setIfInBounds_toArray, List.set_cons_zero, List.set_cons_succ]
          obtain ⟨a5, c5, hv5, rp⟩ := rb.ptsA (by (simp only [List.length_append, List.length_drop, List.length_take, List.length_singleton]) <;> omega) (fun q hq => (List.mem_append.1 hq).elim (fun hq => (hP.2 q hq).ext (y2.trans xb)) (fun hq => by rw [List.mem_singleton] at hq; rw [hq]; exact hok.ext (y2.trans xb)))
          rw [hLM.out] at hv5 rp
          subst hv5
          clear rb
          clear gb ra hba
          refine wpAnyH_take (i := 12) (oi := ?oim356) (v := ?vm356) ?him356 (by kernel_rfl) (by kernel_rfl) (by kernel_rfl) ?hQm356 (Or.inl ⟨?hwm356, ?hym356⟩) hHeld ?restm356
          case him356 => simp only [List.getElem?_toArray, List.getElem?_cons_succ, List.getElem?_cons_zero]; rfl
          case hQm356 => exact fun _ _ _ h => h
          case hwm356 => rfl
          case hym356 => (intro w9 hSw; skip; go_simp; (try with_reducible rfl))
          case restm356 =>
          try simp only [Act.put, List.setIfInBounds_toArray, List.set_cons_zero, List.set_cons_succ]
          refine wpAnyH_ready (rs := [13, 17]) (by kernel_rfl) (by simp) (AllReadyH.cons (o := ?om357C) ?im357C (fun K hK => ?km357C) (AllReadyH.cons (o := ?om357AL) ?im357AL (fun K hK => ?km357AL) AllReadyH.nil))
          case im357C => simp only [List.getElem?_toArray, List.getElem?_cons_succ, List.getElem?_cons_zero]; rfl
          case im357AL => simp only [List.getElem?_toArray, List.getElem?_cons_succ, List.getElem?_cons_zero]; rfl
          case km357C =>
            rw [if_pos (by rfl)]
            go_simp
            have CS := fun W (x : Ext wB W) => famSort_any nm kd un he a5 c5 LM W hLM1 hl12 (rp.ext x)
            go_at_call 10
            (with_reducible refine (CS _ (Ext.refl _)).mono ?_)
            rintro e wC ⟨hs, xc⟩
            obtain ⟨n3, k3, u3, h3, a3, c3', L3, ok3, rfl, rqo, rq, rt⟩ := hs.form
            replace rt := Lib.hid rt
            refine hK.out _ _ (hHeld.trans xc) (fun hHeld => ?_)
            clear hK K CS hs rp
            try simp only [List.setIfInBounds_toArray, List.set_cons_zero, List.set_cons_succ]
            refine wpAnyH_take (i := 14) (oi := ?oim358) (v := ?vm358) ?him358 (by kernel_rfl) (by kernel_rfl) (by kernel_rfl) ?hQm358 (Or.inl ⟨?hwm358, ?hym358⟩) hHeld ?restm358
            case him358 => simp only [List.getElem?_toArray, List.getElem?_cons_succ, List.getElem?_cons_zero]; rfl
            case hQm358 => exact fun _ _ _ h => h
            case hwm358 => rfl
            case hym358 => (intro w9 hSw; skip; go_simp; (try with_reducible rfl))
            case restm358 =>
            try simp only [Act.put, List.setIfInBounds_toArray, List.set_cons_zero, List.set_cons_succ]
            refine wpAnyH_take (i := 15) (oi := ?oim359) (v := ?vm359) ?him359 (by kernel_rfl) (by kernel_rfl) (by kernel_rfl) ?hQm359 (Or.inl ⟨?hwm359, ?hym359⟩) hHeld ?restm359
            case him359 => simp only [List.getElem?_toArray, List.getElem?_cons_succ, List.getElem?_cons_zero]; rfl
            case hQm359 => exact fun _ _ _ h => h
            case hwm359 => rfl
            case hym359 => (intro w9 hSw; skip; go_simp; (try with_reducible rfl))
            case restm359 =>
            try simp only [Act.put, List.setIfInBounds_toArray, List.set_cons_zero, List.set_cons_succ]
            refine wpAnyH_take (i := 16) (oi := ?oim360) (v := ?vm360) ?him360 (by kernel_rfl) (by kernel_rfl) (by kernel_rfl) ?hQm360 (Or.inl ⟨?hwm360, ?hym360⟩) hHeld ?restm360
            case him360 => simp only [List.getElem?_toArray, List.getElem?_cons_succ, List.getElem?_cons_zero]; rfl
            case hQm360 => exact fun _ _ _ h => h
            case hwm360 => rfl
            case hym360 => (intro w9 hSw; skip; go_simp; (try with_reducible rfl))
            case restm360 =>
            try simp only [Act.put, List.setIfInBounds_toArray, List.set_cons_zero, List.set_cons_succ]
            refine wpAnyH_ready (rs := [17]) (by kernel_rfl) (by simp) (AllReadyH.cons (o := ?om361AL) ?im361AL (fun K hK => ?km361AL) AllReadyH.nil)
            case im361AL => simp only [List.getElem?_toArray, List.getElem?_cons_succ, List.getElem?_cons_zero]; rfl
            case km361AL =>
              rw [if_pos (by rfl)]
              go_simp
              have hnW : wc.heap.size ≤ wC.heap.size := hHeld.size
              refine hK.out _ _ (hHeld.alloc _) (fun hHeld => ?_)
              clear hK K
              try simp only [List.setIfInBounds_toArray, List.set_cons_zero, List.set_cons_succ]
              obtain ⟨wN, hwN⟩ : ∃ x, wC.alloc (.cells #[.string ⟨#[]⟩, .int .i64 0, .string ⟨#[]⟩, .string ⟨#[]⟩, .slice none 0 0] 26) = x := ⟨_, rfl⟩
              have xn : Ext wC wN := by rw [← hwN]; exact (Ext.refl _).alloc _
              have al : FamIn wC.heap.size ⟨#[]⟩ 0 ⟨#[]⟩ ⟨#[]⟩ (.slice none 0 0) wN := by rw [← hwN]; exact heap_last _ _
              rw [hwN] at hHeld ⊢
              clear hwN
              refine wpAnyH_ready (rs := [18]) (by kernel_rfl) (by simp) (AllReadyH.cons (o := ?om362ST) ?im362ST (fun K hK => ?km362ST) AllReadyH.nil)
              case im362ST => simp only [List.getElem?_toArray, List.getElem?_cons_succ, List.getElem?_cons_zero]; rfl
              case km362ST =>
                rw [if_pos (by rfl)]
                obtain ⟨d0, d1, d2, d3, d4⟩ := al.cells
                have fr := fun o => al.free o
                go_simp
                refine hK.out _ _ (hHeld.set5 wC.heap.size hnW _ _ _ _ _) (fun hHeld => ?_)
                clear hK K fr d0 d1 d2 d3 d4
                try simp only [List.setIfInBounds_toArray, List.set_cons_zero, List.set_cons_succ]
                replace al := al.stored n3 k3 u3 h3 (.slice a3 L3.length c3')
                have xw := xn.set5 wC.heap.size (Nat.le_refl _) (.string n3) (.int .i64 k3) (.string u3) (.string h3) (.slice a3 L3.length c3')
                refine wpAnyH_take (i := 19) (oi := ?oim363) (v := ?vm363) ?him363 (by kernel_rfl) (by kernel_rfl) (by kernel_rfl) ?hQm363 (Or.inl ⟨?hwm363, ?hym363⟩) hHeld ?restm363
                case him363 => simp only [List.getElem?_toArray, List.getElem?_cons_succ, List.getElem?_cons_zero]; rfl
                case hQm363 => exact fun _ _ _ h => h
                case hwm363 => rfl
                case hym363 => (intro w9 hSw; skip; go_simp; (try with_reducible rfl))
                case restm363 =>
                try simp only [Act.put, List.setIfInBounds_toArray, List.set_cons_zero, List.set_cons_succ]
                refine wpAnyH_done (by kernel_rfl) ?_ _
                go_wp2_with fail
                go_meet
                case rel =>
                  exact ⟨⟨_, n3, k3, u3, h3, a3, c3', L3, ok3, rfl, rfl, al, rq.ext xw, rt⟩, hHeld⟩
          case km357AL =>
            rw [if_pos (by rfl)]
            go_simp
            have hnW : wc.heap.size ≤ wB.heap.size := hHeld.size
            refine hK.out _ _ (hHeld.alloc _) (fun hHeld => ?_)
            clear hK K
            try simp only [List.setIfInBounds_toArray, List.set_cons_zero, List.set_cons_succ]
            obtain ⟨wN, hwN⟩ : ∃ x, wB.alloc (.cells #[.string ⟨#[]⟩, .int .i64 0, .string ⟨#[]⟩, .string ⟨#[]⟩, .slice none 0 0] 26) = x := ⟨_, rfl⟩
            have xn : Ext wB wN := by rw [← hwN]; exact (Ext.refl _).alloc _
            have al : FamIn wB.heap.size ⟨#[]⟩ 0 ⟨#[]⟩ ⟨#[]⟩ (.slice none 0 0) wN := by rw [← hwN]; exact heap_last _ _
            rw [hwN] at hHeld ⊢
            clear hwN
            replace rp := rp.ext xn
            refine wpAnyH_ready (rs := [13]) (by kernel_rfl) (by simp) (AllReadyH.cons (o := ?om364C) ?im364C (fun K hK => ?km364C) AllReadyH.nil)
            case im364C => simp only [List.getElem?_toArray, List.getElem?_cons_succ, List.getElem?_cons_zero]; rfl
            case km364C =>
              rw [if_pos (by rfl)]
              go_simp
              have CS := fun W (x : Ext wN W) => famSort_any nm kd un he a5 c5 LM W hLM1 hl12 (rp.ext x)
              go_at_call 10
              (with_reducible refine (CS _ (Ext.refl _)).mono ?_)
              rintro e wC ⟨hs, xc⟩
              obtain ⟨n3, k3, u3, h3, a3, c3', L3, ok3, rfl, rqo, rq, rt⟩ := hs.form
              replace rt := Lib.hid rt
              refine hK.out _ _ (hHeld.trans xc) (fun hHeld => ?_)
              clear hK K CS hs rp
              try simp only [List.setIfInBounds_toArray, List.set_cons_zero, List.set_cons_succ]
              have hnl := (Array.getElem?_eq_some_iff.1 al).1
              replace al := al.ext xc
              refine wpAnyH_take (i := 14) (oi := ?oim365) (v := ?vm365) ?him365 (by kernel_rfl) (by kernel_rfl) (by kernel_rfl) ?hQm365 (Or.inl ⟨?hwm365, ?hym365⟩) hHeld ?restm365
              case him365 => simp only [List.getElem?_toArray, List.getElem?_cons_succ, List.getElem?_cons_zero]; rfl
              case hQm365 => exact fun _ _ _ h => h
              case hwm365 => rfl
              case hym365 => (intro w9 hSw; skip; go_simp; (try with_reducible rfl))
              case restm365 =>
              try simp only [Act.put, List.setIfInBounds_toArray, List.set_cons_zero, List.set_cons_succ]
              refine wpAnyH_take (i := 15) (oi := ?oim366) (v := ?vm366) ?him366 (by kernel_rfl) (by kernel_rfl) (by kernel_rfl) ?hQm366 (Or.inl ⟨?hwm366, ?hym366⟩) hHeld ?restm366
              case him366 => simp only [List.getElem?_toArray, List.getElem?_cons_succ, List.getElem?_cons_zero]; rfl
              case hQm366 => exact fun _ _ _ h => h
              case hwm366 => rfl
              case hym366 => (intro w9 hSw; skip; go_simp; (try with_reducible rfl))
              case restm366 =>
              try simp only [Act.put, List.setIfInBounds_toArray, List.set_cons_zero, List.set_cons_succ]
              refine wpAnyH_take (i := 16) (oi := ?oim367) (v := ?vm367) ?him367 (by kernel_rfl) (by kernel_rfl) (by kernel_rfl) ?hQm367 (Or.inl ⟨?hwm367, ?hym367⟩) hHeld ?restm367
              case him367 => simp only [List.getElem?_toArray, List.getElem?_cons_succ, List.getElem?_cons_zero]; rfl
              case hQm367 => exact fun _ _ _ h => h
              case hwm367 => rfl
              case hym367 => (intro w9 hSw; skip; go_simp; (try with_reducible rfl))
              case restm367 =>
              try simp only [Act.put, List.setIfInBounds_toArray, List.set_cons_zero, List.set_cons_succ]
              refine wpAnyH_ready (rs := [18]) (by kernel_rfl) (by simp) (AllReadyH.cons (o := ?om368ST) ?im368ST (fun K hK => ?km368ST) AllReadyH.nil)
              case im368ST => simp only [List.getElem?_toArray, List.getElem?_cons_succ, List.getElem?_cons_zero]; rfl
              case km368ST =>
                rw [if_pos (by rfl)]
                obtain ⟨d0, d1, d2, d3, d4⟩ := al.cells
                have fr := fun o => al.free o
                go_simp
                refine hK.out _ _ (hHeld.set5 wB.heap.size hnW _ _ _ _ _) (fun hHeld => ?_)
                clear hK K fr d0 d1 d2 d3 d4
                try simp only [List.setIfInBounds_toArray, List.set_cons_zero, List.set_cons_succ]
                replace al := al.stored n3 k3 u3 h3 (.slice a3 L3.length c3')
                replace rqo := rqo.set5 wB.heap.size hnl (.string n3) (.int .i64 k3) (.string u3) (.string h3) (.slice a3 L3.length c3')
                refine wpAnyH_take (i := 19) (oi := ?oim369) (v := ?vm369) ?him369 (by kernel_rfl) (by kernel_rfl) (by kernel_rfl) ?hQm369 (Or.inl ⟨?hwm369, ?hym369⟩) hHeld ?restm369
                case him369 => simp only [List.getElem?_toArray, List.getElem?_cons_succ, List.getElem?_cons_zero]; rfl
                case hQm369 => exact fun _ _ _ h => h
                case hwm369 => rfl
                case hym369 => (intro w9 hSw; skip; go_simp; (try with_reducible rfl))
                case restm369 =>
                try simp only [Act.put, List.setIfInBounds_toArray, List.set_cons_zero, List.set_cons_succ]
                refine wpAnyH_done (by kernel_rfl) ?_ _
                go_wp2_with fail
                go_meet
                case rel =>
                  obtain ⟨a4, c4', hv4, rq4⟩ := rqo.pts
                  injection hv4 with e1 e2 e3
                  subst e1 e3
                  exact ⟨⟨_, n3, k3, u3, h3, _, _, L3, ok3, rfl, rfl, al, rq4, rt⟩, hHeld⟩
        case km355AL =>
          rw [if_pos (by rfl)]
          go_simp
          have hnW : wc.heap.size ≤ wS.heap.size := hHeld.size
          refine hK.out _ _ (hHeld.alloc _) (fun hHeld => ?_)
          clear hK K
          try simp only [List.setIfInBounds_toArray, List.set_cons_zero, List.set_cons_succ]
          obtain ⟨wN, hwN⟩ : ∃ x, wS.alloc (.cells #[.string ⟨#[]⟩, .int .i64 0, .string ⟨#[]⟩, .string ⟨#[]⟩, .slice none 0 0] 26) = x := ⟨_, rfl⟩
          have xn : Ext wS wN := by rw [← hwN]; exact (Ext.refl _).alloc _
          have al : FamIn wS.heap.size ⟨#[]⟩ 0 ⟨#[]⟩ ⟨#[]⟩ (.slice none 0 0) wN := by rw [← hwN]; exact heap_last _ _
          rw [hwN] at hHeld ⊢
          clear hwN
          have nv : ∀ g, v1.ownBlock = some g → wS.heap.size ≠ g := fun g hg => by have := (ra.lt g hg).2; omega
          replace ra := ra.ext xn
          replace hba := Nat.le_trans hba xn.size
          replace rs := rs.ext xn
          refine wpAnyH_ready (rs := [11]) (by kernel_rfl) (by simp) (AllReadyH.cons (o := ?om370A2) ?im370A2 (fun K hK => ?km370A2) AllReadyH.nil)
          case im370A2 => simp only [List.getElem?_toArray, List.getElem?_cons_succ, List.getElem?_cons_zero]; rfl
          case km370A2 =>
            rw [if_pos (by rfl)]
            obtain ⟨v2, wB, eb, rb, gb, _⟩ := app_row tyPt (fun _ => rfl) ptC_one (by decide) wN 24 PtD.zero w0.heap.size l.length v1 l ra (by first | rfl | rw [List.length_drop]) (by omega) hba ⟨wA.heap.size, 0, none⟩ [p] 1 1 (PtsA.src (rs)) (by first | rfl | (rw [List.length_take]; omega)) (by omega) (by omega)
            have xb : Ext wc wB := grown_ext' hHeld gb (Nat.le_refl _) (fun g hg => by have := (ra.lt g hg).1; omega)
            refine Lib.wp_append_run _ _ _ _ _ rfl _ _ rfl rfl v2 wB eb (hK.out _ _ xb (fun hHeld => ?_))
            clear hK K eb
            try simp only [List.setIfInBounds_toArray, List.set_cons_zero, List.set_cons_succ]
            obtain ⟨a5, c5, hv5, rp⟩ := rb.ptsA (by (simp only [List.length_append, List.length_drop, List.length_take, List.length_singleton]) <;> omega) (fun q hq => (List.mem_append.1 hq).elim (fun hq => (hP.2 q hq).ext (y2.trans xb)) (fun hq => by rw [List.mem_singleton] at hq; rw [hq]; exact hok.ext (y2.trans xb)))
            rw [hLM.out] at hv5 rp
            subst hv5
            clear rb
            replace al := al.grown gb (fun g hg => nv g hg)
            clear nv
            clear gb ra hba
            refine wpAnyH_take (i := 12) (oi := ?oim371) (v := ?vm371) ?him371 (by kernel_rfl) (by kernel_rfl) (by kernel_rfl) ?hQm371 (Or.inl ⟨?hwm371, ?hym371⟩) hHeld ?restm371
            case him371 => simp only [List.getElem?_toArray, List.getElem?_cons_succ, List.getElem?_cons_zero]; rfl
            case hQm371 => exact fun _ _ _ h => h
            case hwm371 => rfl
            case hym371 => (intro w9 hSw; skip; go_simp; (try with_reducible rfl))
            case restm371 =>
            try simp only [Act.put, List.setIfInBounds_toArray, List.set_cons_zero, List.set_cons_succ]
            refine wpAnyH_ready (rs := [13]) (by kernel_rfl) (by simp) (AllReadyH.cons (o := ?om372C) ?im372C (fun K hK => ?km372C) AllReadyH.nil)
            case im372C => simp only [List.getElem?_toArray, List.getElem?_cons_succ, List.getElem?_cons_zero]; rfl
            case km372C =>
              rw [if_pos (by rfl)]
              go_simp
              have CS := fun W (x : Ext wB W) => famSort_any nm kd un he a5 c5 LM W hLM1 hl12 (rp.ext x)
              go_at_call 10
              (with_reducible refine (CS _ (Ext.refl _)).mono ?_)
              rintro e wC ⟨hs, xc⟩
              obtain ⟨n3, k3, u3, h3, a3, c3', L3, ok3, rfl, rqo, rq, rt⟩ := hs.form
              replace rt := Lib.hid rt
              refine hK.out _ _ (hHeld.trans xc) (fun hHeld => ?_)
              clear hK K CS hs rp
              try simp only [List.setIfInBounds_toArray, List.set_cons_zero, List.set_cons_succ]
              have hnl := (Array.getElem?_eq_some_iff.1 al).1
              replace al := al.ext xc
              refine wpAnyH_take (i := 14) (oi := ?oim373) (v := ?vm373) ?him373 (by kernel_rfl) (by kernel_rfl) (by kernel_rfl) ?hQm373 (Or.inl ⟨?hwm373, ?hym373⟩) hHeld ?restm373
              case him373 => simp only [List.getElem?_toArray, List.getElem?_cons_succ, List.getElem?_cons_zero]; rfl
              case hQm373 => exact fun _ _ _ h => h
              case hwm373 => rfl
              case hym373 => (intro w9 hSw; skip; go_simp; (try with_reducible rfl))
              case restm373 =>
              try simp only [Act.put, List.setIfInBounds_toArray, List.set_cons_zero, List.set_cons_succ]
              refine wpAnyH_take (i := 15) (oi := ?oim374) (v := ?vm374) ?him374 (by kernel_rfl) (by kernel_rfl) (by kernel_rfl) ?hQm374 (Or.inl ⟨?hwm374, ?hym374⟩) hHeld ?restm374
              case him374 => simp only [List.getElem?_toArray, List.getElem?_cons_succ, List.getElem?_cons_zero]; rfl
              case hQm374 => exact fun _ _ _ h => h
              case hwm374 => rfl
              case hym374 => (intro w9 hSw; skip; go_simp; (try with_reducible rfl))
              case restm374 =>
              try simp only [Act.put, List.setIfInBounds_toArray, List.set_cons_zero, List.set_cons_succ]
              refine wpAnyH_take (i := 16) (oi := ?oim375) (v := ?vm375) ?him375 (by kernel_rfl) (by kernel_rfl) (by kernel_rfl) ?hQm375 (Or.inl ⟨?hwm375, ?hym375⟩) hHeld ?restm375
              case him375 => simp only [List.getElem?_toArray, List.getElem?_cons_succ, List.getElem?_cons_zero]; rfl
              case hQm375 => exact fun _ _ _ h => h
              case hwm375 => rfl
              case hym375 => (intro w9 hSw; skip; go_simp; (try with_reducible rfl))
              case restm375 =>
              try simp only [Act.put, List.setIfInBounds_toArray, List.set_cons_zero, List.set_cons_succ]
              refine wpAnyH_ready (rs := [18]) (by kernel_rfl) (by simp) (AllReadyH.cons (o := ?om376ST) ?im376ST (fun K hK => ?km376ST) AllReadyH.nil)
              case im376ST => simp only [List.getElem?_toArray, List.getElem?_cons_succ, List.getElem?_cons_zero]; rfl
              case km376ST =>
                rw [if_pos (by rfl)]
                obtain ⟨d0, d1, d2, d3, d4⟩ := al.cells
                have fr := fun o => al.free o
                go_simp
                refine hK.out _ _ (hHeld.set5 wS.heap.size hnW _ _ _ _ _) (fun hHeld => ?_)
                clear hK K fr d0 d1 d2 d3 d4
                try simp only [List.setIfInBounds_toArray, List.set_cons_zero, List.set_cons_succ]
                replace al := al.stored n3 k3 u3 h3 (.slice a3 L3.length c3')
                replace rqo := rqo.set5 wS.heap.size hnl (.string n3) (.int .i64 k3) (.string u3) (.string h3) (.slice a3 L3.length c3')
                refine wpAnyH_take (i := 19) (oi := ?oim377) (v := ?vm377) ?him377 (by kernel_rfl) (by kernel_rfl) (by kernel_rfl) ?hQm377 (Or.inl ⟨?hwm377, ?hym377⟩) hHeld ?restm377
                case him377 => simp only [List.getElem?_toArray, List.getElem?_cons_succ, List.getElem?_cons_zero]; rfl
                case hQm377 => exact fun _ _ _ h => h
                case hwm377 => rfl
                case hym377 => (intro w9 hSw; skip; go_simp; (try with_reducible rfl))
                case restm377 =>
                try simp only [Act.put, List.setIfInBounds_toArray, List.set_cons_zero, List.set_cons_succ]
                refine wpAnyH_done (by kernel_rfl) ?_ _
                go_wp2_with fail
                go_meet
                case rel =>
                  obtain ⟨a4, c4', hv4, rq4⟩ := rqo.pts
                  injection hv4 with e1 e2 e3
                  subst e1 e3
                  exact ⟨⟨_, n3, k3, u3, h3, _, _, L3, ok3, rfl, rfl, al, rq4, rt⟩, hHeld⟩
      case km354AL =>
        rw [if_pos (by rfl)]
        go_simp
        have hnW : wc.heap.size ≤ wA.heap.size := hHeld.size
        refine hK.out _ _ (hHeld.alloc _) (fun hHeld => ?_)
        clear hK K
        try simp only [List.setIfInBounds_toArray, List.set_cons_zero, List.set_cons_succ]
        obtain ⟨wN, hwN⟩ : ∃ x, wA.alloc (.cells #[.string ⟨#[]⟩, .int .i64 0, .string ⟨#[]⟩, .string ⟨#[]⟩, .slice none 0 0] 26) = x := ⟨_, rfl⟩
        have xn : Ext wA wN := by rw [← hwN]; exact (Ext.refl _).alloc _
        have al : FamIn wA.heap.size ⟨#[]⟩ 0 ⟨#[]⟩ ⟨#[]⟩ (.slice none 0 0) wN := by rw [← hwN]; exact heap_last _ _
        rw [hwN] at hHeld ⊢
        clear hwN
        have nv : ∀ g, v1.ownBlock = some g → wA.heap.size ≠ g := fun g hg => by have := (ra.lt g hg).2; omega
        replace ra := ra.ext xn
        replace hba := Nat.le_trans hba xn.size
        refine wpAnyH_ready (rs := [10]) (by kernel_rfl) (by simp) (AllReadyH.cons (o := ?om378BS) ?im378BS (fun K hK => ?km378BS) AllReadyH.nil)
        case im378BS => simp only [List.getElem?_toArray, List.getElem?_cons_succ, List.getElem?_cons_zero]; rfl
        case km378BS =>
          rw [if_pos (by rfl)]
          go_simp
          refine hK.out _ _ (hHeld.alloc _) (fun hHeld => ?_)
          clear hK K
          try simp only [List.setIfInBounds_toArray, List.set_cons_zero, List.set_cons_succ]
          obtain ⟨wS, hwS⟩ : ∃ x, wN.alloc (.cells #[.slice p.a p.l.length p.c, .int .i64 p.r, .bool p.f, .int .i64 p.M, .int .i64 p.S, .int .i64 p.m, .int .i64 p.s, .bool p.t, .int .i64 p.T] 35) = x := ⟨_, rfl⟩
          have xs : Ext wN wS := by rw [← hwS]; exact (Ext.refl _).alloc _
          have rs : PtsA (some ⟨wN.heap.size, 0, none⟩) [p] wS := by rw [← hwS]; exact PtsA.one (heap_last _ _) (by rw [hwS]; rw [hwS] at hHeld; exact hok.ext (y2.trans hHeld)) 
          rw [hwS] at hHeld ⊢
          clear hwS
          replace al := al.ext xs
          replace ra := ra.ext xs
          replace hba := Nat.le_trans hba xs.size
          refine wpAnyH_ready (rs := [11]) (by kernel_rfl) (by simp) (AllReadyH.cons (o := ?om379A2) ?im379A2 (fun K hK => ?km379A2) AllReadyH.nil)
          case im379A2 => simp only [List.getElem?_toArray, List.getElem?_cons_succ, List.getElem?_cons_zero]; rfl
          case km379A2 =>
            rw [if_pos (by rfl)]
            obtain ⟨v2, wB, eb, rb, gb, _⟩ := app_row tyPt (fun _ => rfl) ptC_one (by decide) wS 24 PtD.zero w0.heap.size l.length v1 l ra (by first | rfl | rw [List.length_drop]) (by omega) hba ⟨wN.heap.size, 0, none⟩ [p] 1 1 (PtsA.src (rs)) (by first | rfl | (rw [List.length_take]; omega)) (by omega) (by omega)
            have xb : Ext wc wB := grown_ext' hHeld gb (Nat.le_refl _) (fun g hg => by have := (ra.lt g hg).1; omega)
            refine Lib.wp_append_run _ _ _ _ _ rfl _ _ rfl rfl v2 wB eb (hK.out _ _ xb (fun hHeld => ?_))
            clear hK K eb
            try simp only [List.setIfInBounds_toArray, List.set_cons_zero, List.set_cons_succ]
            obtain ⟨a5, c5, hv5, rp⟩ := rb.ptsA (by (simp only [List.length_append, List.length_drop, List.length_take, List.length_singleton]) <;> omega) (fun q hq => (List.mem_append.1 hq).elim (fun hq => (hP.2 q hq).ext (y2.trans xb)) (fun hq => by rw [List.mem_singleton] at hq; rw [hq]; exact hok.ext (y2.trans xb)))
            rw [hLM.out] at hv5 rp
            subst hv5
            clear rb
            replace al := al.grown gb (fun g hg => nv g hg)
            clear nv
            clear gb ra hba
            refine wpAnyH_take (i := 12) (oi := ?oim380) (v := ?vm380) ?him380 (by kernel_rfl) (by kernel_rfl) (by kernel_rfl) ?hQm380 (Or.inl ⟨?hwm380, ?hym380⟩) hHeld ?restm380
            case him380 => simp only [List.getElem?_toArray, List.getElem?_cons_succ, List.getElem?_cons_zero]; rfl
            case hQm380 => exact fun _ _ _ h => h
            case hwm380 => rfl
            case hym380 => (intro w9 hSw; skip; go_simp; (try with_reducible rfl))
            case restm380 =>
            try simp only [Act.put, List.setIfInBounds_toArray, List.set_cons_zero, List.set_cons_succ]
            refine wpAnyH_ready (rs := [13]) (by kernel_rfl) (by simp) (AllReadyH.cons (o := ?om381C) ?im381C (fun K hK => ?km381C) AllReadyH.nil)
            case im381C => simp only [List.getElem?_toArray, List.getElem?_cons_succ, List.getElem?_cons_zero]; rfl
            case km381C =>
              rw [if_pos (by rfl)]
              go_simp
              have CS := fun W (x : Ext wB W) => famSort_any nm kd un he a5 c5 LM W hLM1 hl12 (rp.ext x)
              go_at_call 10
              (with_reducible refine (CS _ (Ext.refl _)).mono ?_)
              rintro e wC ⟨hs, xc⟩
              obtain ⟨n3, k3, u3, h3, a3, c3', L3, ok3, rfl, rqo, rq, rt⟩ := hs.form
              replace rt := Lib.hid rt
              refine hK.out _ _ (hHeld.trans xc) (fun hHeld => ?_)
              clear hK K CS hs rp
              try simp only [List.setIfInBounds_toArray, List.set_cons_zero, List.set_cons_succ]
              have hnl := (Array.getElem?_eq_some_iff.1 al).1
              replace al := al.ext xc
              refine wpAnyH_take (i := 14) (oi := ?oim382) (v := ?vm382) ?him382 (by kernel_rfl) (by kernel_rfl) (by kernel_rfl) ?hQm382 (Or.inl ⟨?hwm382, ?hym382⟩) hHeld ?restm382
              case him382 => simp only [List.getElem?_toArray, List.getElem?_cons_succ, List.getElem?_cons_zero]; rfl
              case hQm382 => exact fun _ _ _ h => h
              case hwm382 => rfl
              case hym382 => (intro w9 hSw; skip; go_simp; (try with_reducible rfl))
              case restm382 =>
              try simp only [Act.put, List.setIfInBounds_toArray, List.set_cons_zero, List.set_cons_succ]
              refine wpAnyH_take (i := 15) (oi := ?oim383) (v := ?vm383) ?him383 (by kernel_rfl) (by kernel_rfl) (by kernel_rfl) ?hQm383 (Or.inl ⟨?hwm383, ?hym383⟩) hHeld ?restm383
              case him383 => simp only [List.getElem?_toArray, List.getElem?_cons_succ, List.getElem?_cons_zero]; rfl
              case hQm383 => exact fun _ _ _ h => h
              case hwm383 => rfl
              case hym383 => (intro w9 hSw; skip; go_simp; (try with_reducible rfl))
              case restm383 =>
              try simp only [Act.put, List.setIfInBounds_toArray, List.set_cons_zero, List.set_cons_succ]
              refine wpAnyH_take (i := 16) (oi := ?oim384) (v := ?vm384) ?him384 (by kernel_rfl) (by kernel_rfl) (by kernel_rfl) ?hQm384 (Or.inl ⟨?hwm384, ?hym384⟩) hHeld ?restm384
              case him384 => simp only [List.getElem?_toArray, List.getElem?_cons_succ, List.getElem?_cons_zero]; rfl
              case hQm384 => exact fun _ _ _ h => h
              case hwm384 => rfl
              case hym384 => (intro w9 hSw; skip; go_simp; (try with_reducible rfl))
              case restm384 =>
              try simp only [Act.put, List.setIfInBounds_toArray, List.set_cons_zero, List.set_cons_succ]
              refine wpAnyH_ready (rs := [18]) (by kernel_rfl) (by simp) (AllReadyH.cons (o := ?om385ST) ?im385ST (fun K hK => ?km385ST) AllReadyH.nil)
              case im385ST => simp only [List.getElem?_toArray, List.getElem?_cons_succ, List.getElem?_cons_zero]; rfl
              case km385ST =>
                rw [if_pos (by rfl)]
                obtain ⟨d0, d1, d2, d3, d4⟩ := al.cells
                have fr := fun o => al.free o
                go_simp
                refine hK.out _ _ (hHeld.set5 wA.heap.size hnW _ _ _ _ _) (fun hHeld => ?_)
                clear hK K fr d0 d1 d2 d3 d4
                try simp only [List.setIfInBounds_toArray, List.set_cons_zero, List.set_cons_succ]
                replace al := al.stored n3 k3 u3 h3 (.slice a3 L3.length c3')
                replace rqo := rqo.set5 wA.heap.size hnl (.string n3) (.int .i64 k3) (.string u3) (.string h3) (.slice a3 L3.length c3')
                refine wpAnyH_take (i := 19) (oi := ?oim386) (v := ?vm386) ?him386 (by kernel_rfl) (by kernel_rfl) (by kernel_rfl) ?hQm386 (Or.inl ⟨?hwm386, ?hym386⟩) hHeld ?restm386
                case him386 => simp only [List.getElem?_toArray, List.getElem?_cons_succ, List.getElem?_cons_zero]; rfl
                case hQm386 => exact fun _ _ _ h => h
                case hwm386 => rfl
                case hym386 => (intro w9 hSw; skip; go_simp; (try with_reducible rfl))
                case restm386 =>
                try simp only [Act.put, List.setIfInBounds_toArray, List.set_cons_zero, List.set_cons_succ]
                refine wpAnyH_done (by kernel_rfl) ?_ _
                go_wp2_with fail
                go_meet
                case rel =>
                  obtain ⟨a4, c4', hv4, rq4⟩ := rqo.pts
                  injection hv4 with e1 e2 e3
                  subst e1 e3
                  exact ⟨⟨_, n3, k3, u3, h3, _, _, L3, ok3, rfl, rfl, al, rq4, rt⟩, hHeld⟩
    case km353BS =>
      rw [if_pos (by rfl)]
      go_simp
      refine hK.out _ _ (hHeld.alloc _) (fun hHeld => ?_)
      clear hK K
      try simp only [List.setIfInBounds_toArray, List.set_cons_zero, List.set_cons_succ]
      obtain ⟨wS, hwS⟩ : ∃ x, w0.alloc (.cells #[.slice p.a p.l.length p.c, .int .i64 p.r, .bool p.f, .int .i64 p.M, .int .i64 p.S, .int .i64 p.m, .int .i64 p.s, .bool p.t, .int .i64 p.T] 35) = x := ⟨_, rfl⟩
      have xs : Ext w0 wS := by rw [← hwS]; exact (Ext.refl _).alloc _
      have rs : PtsA (some ⟨w0.heap.size, 0, none⟩) [p] wS := by rw [← hwS]; exact PtsA.one (heap_last _ _) (by rw [hwS]; rw [hwS] at hHeld; exact hok.ext (y2.trans hHeld)) 
      rw [hwS] at hHeld ⊢
      clear hwS
      refine wpAnyH_ready (rs := [4, 17]) (by kernel_rfl) (by simp) (AllReadyH.cons (o := ?om387A1) ?im387A1 (fun K hK => ?km387A1) (AllReadyH.cons (o := ?om387AL) ?im387AL (fun K hK => ?km387AL) AllReadyH.nil))
      case im387A1 => simp only [List.getElem?_toArray, List.getElem?_cons_succ, List.getElem?_cons_zero]; rfl
      case im387AL => simp only [List.getElem?_toArray, List.getElem?_cons_succ, List.getElem?_cons_zero]; rfl
      case km387A1 =>
        rw [if_pos (by rfl)]
        have hbW : wc.heap.size ≤ wS.heap.size := hHeld.size
        obtain ⟨v1, wA, ea, ra, xa⟩ := app_nil tyPt (fun _ => rfl) ptC_one (by decide) wS 24 PtD.zero ⟨b, o, none⟩ l l.length c (PtsA.src (hP.ext (y2.trans hHeld))) (by first | rfl | rw [List.length_drop]) (by omega) (by omega) (by omega)
        refine Lib.wp_append_run _ _ _ _ _ rfl _ _ rfl rfl v1 wA ea (hK.out _ _ (hHeld.trans xa) (fun hHeld => ?_))
        clear hK K ea
        try simp only [List.setIfInBounds_toArray, List.set_cons_zero, List.set_cons_succ]
        have hba : wS.heap.size ≤ wA.heap.size := xa.size
        replace rs := rs.ext xa
        refine wpAnyH_ready (rs := [11, 17]) (by kernel_rfl) (by simp) (AllReadyH.cons (o := ?om388A2) ?im388A2 (fun K hK => ?km388A2) (AllReadyH.cons (o := ?om388AL) ?im388AL (fun K hK => ?km388AL) AllReadyH.nil))
        case im388A2 => simp only [List.getElem?_toArray, List.getElem?_cons_succ, List.getElem?_cons_zero]; rfl
        case im388AL => simp only [List.getElem?_toArray, List.getElem?_cons_succ, List.getElem?_cons_zero]; rfl
        case km388A2 =>
          rw [if_pos (by rfl)]
          obtain ⟨v2, wB, eb, rb, gb, _⟩ := app_row tyPt (fun _ => rfl) ptC_one (by decide) wA 24 PtD.zero wS.heap.size l.length v1 l ra (by first | rfl | rw [List.length_drop]) (by omega) hba ⟨w0.heap.size, 0, none⟩ [p] 1 1 (PtsA.src (rs)) (by first | rfl | (rw [List.length_take]; omega)) (by omega) (by omega)
          have xb : Ext wc wB := grown_ext' hHeld gb (Nat.le_refl _) (fun g hg => by have := (ra.lt g hg).1; omega)
          refine Lib.wp_append_run _ _ _ _ _ rfl _ _ rfl rfl v2 wB eb (hK.out _ _ xb (fun hHeld => ?_))
          clear hK K eb
          try simp only [List.setIfInBounds_toArray, List.set_cons_zero, List.set_cons_succ]
          obtain ⟨a5, c5, hv5, rp⟩ := rb.ptsA (by (simp only [List.length_append, List.length_drop, List.length_take, List.length_singleton]) <;> omega) (fun q hq => (List.mem_append.1 hq).elim (fun hq => (hP.2 q hq).ext (y2.trans xb)) (fun hq => by rw [List.mem_singleton] at hq; rw [hq]; exact hok.ext (y2.trans xb)))
          rw [hLM.out] at hv5 rp
          subst hv5
          clear rb
          clear gb ra hba
          refine wpAnyH_take (i := 12) (oi := ?oim389) (v := ?vm389) ?him389 (by kernel_rfl) (by kernel_rfl) (by kernel_rfl) ?hQm389 (Or.inl ⟨?hwm389, ?hym389⟩) hHeld ?restm389
          case him389 => simp only [List.getElem?_toArray, List.getElem?_cons_succ, List.getElem?_cons_zero]; rfl
          case hQm389 => exact fun _ _ _ h => h
          case hwm389 => rfl
          case hym389 => (intro w9 hSw; skip; go_simp; (try with_reducible rfl))
          case restm389 =>
          try simp only [Act.put, List.setIfInBounds_toArray, List.set_cons_zero, List.set_cons_succ]
          refine wpAnyH_ready (rs := [13, 17]) (by kernel_rfl) (by simp) (AllReadyH.cons (o := ?om390C) ?im390C (fun K hK => ?km390C) (AllReadyH.cons (o := ?om390AL) ?im390AL (fun K hK => ?km390AL) AllReadyH.nil))
          case im390C => simp only [List.getElem?_toArray, List.getElem?_cons_succ, List.getElem?_cons_zero]; rfl
          case im390AL => simp only [List.getElem?_toArray, List.getElem?_cons_succ, List.getElem?_cons_zero]; rfl
          case km390C =>
            rw [if_pos (by rfl)]
            go_simp
            have CS := fun W (x : Ext wB W) => famSort_any nm kd un he a5 c5 LM W hLM1 hl12 (rp.ext x)
            go_at_call 10
            (with_reducible refine (CS _ (Ext.refl _)).mono ?_)
            rintro e wC ⟨hs, xc⟩
            obtain ⟨n3, k3, u3, h3, a3, c3', L3, ok3, rfl, rqo, rq, rt⟩ := hs.form
            replace rt := Lib.hid rt
            refine hK.out _ _ (hHeld.trans xc) (fun hHeld => ?_)
            clear hK K CS hs rp
            try simp only [List.setIfInBounds_toArray, List.set_cons_zero, List.set_cons_succ]
            refine wpAnyH_take (i := 14) (oi := ?oim391) (v := ?vm391) ?him391 (by kernel_rfl) (by kernel_rfl) (by kernel_rfl) ?hQm391 (Or.inl ⟨?hwm391, ?hym391⟩) hHeld ?restm391
            case him391 => simp only [List.getElem?_toArray, List.getElem?_cons_succ, List.getElem?_cons_zero]; rfl
            case hQm391 => exact fun _ _ _ h => h
            case hwm391 => rfl
            case hym391 => (intro w9 hSw; skip; go_simp; (try with_reducible rfl))
            case restm391 =>
            try simp only [Act.put, List.setIfInBounds_toArray, List.set_cons_zero, List.set_cons_succ]
            refine wpAnyH_take (i := 15) (oi := ?oim392) (v := ?vm392) ?him392 (by kernel_rfl) (by kernel_rfl) (by kernel_rfl) ?hQm392 (Or.inl ⟨?hwm392, ?hym392⟩) hHeld ?restm392
            case him392 => simp only [List.getElem?_toArray, List.getElem?_cons_succ, List.getElem?_cons_zero]; rfl
            case hQm392 => exact fun _ _ _ h => h
            case hwm392 => rfl
            case hym392 => (intro w9 hSw; skip; go_simp; (try with_reducible rfl))
            case restm392 =>
            try simp only [Act.put, List.setIfInBounds_toArray, List.set_cons_zero, List.set_cons_succ]
            refine wpAnyH_take (i := 16) (oi := ?oim393) (v := ?vm393) ?him393 (by kernel_rfl) (by kernel_rfl) (by kernel_rfl) ?hQm393 (Or.inl ⟨?hwm393, ?hym393⟩) hHeld ?restm393
            case him393 => simp only [List.getElem?_toArray, List.getElem?_cons_succ, List.getElem?_cons_zero]; rfl
            case hQm393 => exact fun _ _ _ h => h
            case hwm393 => rfl
            case hym393 => (intro w9 hSw; skip; go_simp; (try with_reducible rfl))
            case restm393 =>
            try simp only [Act.put, List.setIfInBounds_toArray, List.set_cons_zero, List.set_cons_succ]
            refine wpAnyH_ready (rs := [17]) (by kernel_rfl) (by simp) (AllReadyH.cons (o := ?om394AL) ?im394AL (fun K hK => ?km394AL) AllReadyH.nil)
            case im394AL => simp only [List.getElem?_toArray, List.getElem?_cons_succ, List.getElem?_cons_zero]; rfl
            case km394AL =>
              rw [if_pos (by rfl)]
              go_simp
              have hnW : wc.heap.size ≤ wC.heap.size := hHeld.size
              refine hK.out _ _ (hHeld.alloc _) (fun hHeld => ?_)
              clear hK K
              try simp only [List.setIfInBounds_toArray, List.set_cons_zero, List.set_cons_succ]
              obtain ⟨wN, hwN⟩ : ∃ x, wC.alloc (.cells #[.string ⟨#[]⟩, .int .i64 0, .string ⟨#[]⟩, .string ⟨#[]⟩, .slice none 0 0] 26) = x := ⟨_, rfl⟩
              have xn : Ext wC wN := by rw [← hwN]; exact (Ext.refl _).alloc _
              have al : FamIn wC.heap.size ⟨#[]⟩ 0 ⟨#[]⟩ ⟨#[]⟩ (.slice none 0 0) wN := by rw [← hwN]; exact heap_last _ _
              rw [hwN] at hHeld ⊢
              clear hwN
              refine wpAnyH_ready (rs := [18]) (by kernel_rfl) (by simp) (AllReadyH.cons (o := ?om395ST) ?im395ST (fun K hK => ?km395ST) AllReadyH.nil)
              case im395ST => simp only [List.getElem?_toArray, List.getElem?_cons_succ, List.getElem?_cons_zero]; rfl
              case km395ST =>
                rw [if_pos (by rfl)]
                obtain ⟨d0, d1, d2, d3, d4⟩ := al.cells
                have fr := fun o => al.free o
                go_simp
                refine hK.out _ _ (hHeld.set5 wC.heap.size hnW _ _ _ _ _) (fun hHeld => ?_)
                clear hK K fr d0 d1 d2 d3 d4
                try simp only [List.setIfInBounds_toArray, List.set_cons_zero, List.set_cons_succ]
                replace al := al.stored n3 k3 u3 h3 (.slice a3 L3.length c3')
                have xw := xn.set5 wC.heap.size (Nat.le_refl _) (.string n3) (.int .i64 k3) (.string u3) (.string h3) (.slice a3 L3.length c3')
                refine wpAnyH_take (i := 19) (oi := ?oim396) (v := ?vm396) ?him396 (by kernel_rfl) (by kernel_rfl) (by kernel_rfl) ?hQm396 (Or.inl ⟨?hwm396, ?hym396⟩) hHeld ?restm396
                case him396 => simp only [List.getElem?_toArray, List.getElem?_cons_succ, List.getElem?_cons_zero]; rfl
                case hQm396 => exact fun _ _ _ h => h
                case hwm396 => rfl
                case hym396 => (intro w9 hSw; skip; go_simp; (try with_reducible rfl))
                case restm396 =>
                try simp only [Act.put, List.setIfInBounds_toArray, List.set_cons_zero, List.set_cons_succ]
                refine wpAnyH_done (by kernel_rfl) ?_ _
                go_wp2_with fail
                go_meet
                case rel =>
                  exact ⟨⟨_, n3, k3, u3, h3, a3, c3', L3, ok3, rfl, rfl, al, rq.ext xw, rt⟩, hHeld⟩
          case km390AL =>
            rw [if_pos (by rfl)]
            go_simp
            have hnW : wc.heap.size ≤ wB.heap.size := hHeld.size
            refine hK.out _ _ (hHeld.alloc _) (fun hHeld => ?_)
            clear hK K
            try simp only [List.setIfInBounds_toArray, List.set_cons_zero, List.set_cons_succ]
            obtain ⟨wN, hwN⟩ : ∃ x, wB.alloc (.cells #[.string ⟨#[]⟩, .int .i64 0, .string ⟨#[]⟩, .string ⟨#[]⟩, .slice none 0 0] 26) = x := ⟨_, rfl⟩
            have xn : Ext wB wN := by rw [← hwN]; exact (Ext.refl _).alloc _
            have al : FamIn wB.heap.size ⟨#[]⟩ 0 ⟨#[]⟩ ⟨#[]⟩ (.slice none 0 0) wN := by rw [← hwN]; exact heap_last _ _
            rw [hwN] at hHeld ⊢
            clear hwN
            replace rp := rp.ext xn
            refine wpAnyH_ready (rs := [13]) (by kernel_rfl) (by simp) (AllReadyH.cons (o := ?om397C) ?im397C (fun K hK => ?km397C) AllReadyH.nil)
            case im397C => simp only [List.getElem?_toArray, List.getElem?_cons_succ, List.getElem?_cons_zero]; rfl
            case km397C =>
              rw [if_pos (by rfl)]
              go_simp
              have CS := fun W (x : Ext wN W) => famSort_any nm kd un he a5 c5 LM W hLM1 hl12 (rp.ext x)
              go_at_call 10
              (with_reducible refine (CS _ (Ext.refl _)).mono ?_)
              rintro e wC ⟨hs, xc⟩
              obtain ⟨n3, k3, u3, h3, a3, c3', L3, ok3, rfl, rqo, rq, rt⟩ := hs.form
              replace rt := Lib.hid rt
              refine hK.out _ _ (hHeld.trans xc) (fun hHeld => ?_)
              clear hK K CS hs rp
              try simp only [List.setIfInBounds_toArray, List.set_cons_zero, List.set_cons_succ]
              have hnl := (Array.getElem?_eq_some_iff.1 al).1
              replace al := al.ext xc
              refine wpAnyH_take (i := 14) (oi := ?oim398) (v := ?vm398) ?him398 (by kernel_rfl) (by kernel_rfl) (by kernel_rfl) ?hQm398 (Or.inl ⟨?hwm398, ?hym398⟩) hHeld ?restm398
              case him398 => simp only [List.getElem?_toArray, List.getElem?_cons_succ, List.getElem?_cons_zero]; rfl
              case hQm398 => exact fun _ _ _ h => h
              case hwm398 => rfl
              case hym398 => (intro w9 hSw; skip; go_simp; (try with_reducible rfl))
              case restm398 =>
              try simp only [Act.put, List.setIfInBounds_toArray, List.set_cons_zero, List.set_cons_succ]
              refine wpAnyH_take (i := 15) (oi := ?oim399) (v := ?vm399) ?him399 (by kernel_rfl) (by kernel_rfl) (by kernel_rfl) ?hQm399 (Or.inl ⟨?hwm399, ?hym399⟩) hHeld ?restm399
              case him399 => simp only [List.getElem?_toArray, List.getElem?_cons_succ, List.getElem?_cons_zero]; rfl
              case hQm399 => exact fun _ _ _ h => h
              case hwm399 => rfl
              case hym399 => (intro w9 hSw; skip; go_simp; (try with_reducible rfl))
              case restm399 =>
              try simp only [Act.put, List.setIfInBounds_toArray, List.set_cons_zero, List.set_cons_succ]
              refine wpAnyH_take (i := 16) (oi := ?oim400) (v := ?vm400) ?him400 (by kernel_rfl) (by kernel_rfl) (by kernel_rfl) ?hQm400 (Or.inl ⟨?hwm400, ?hym400⟩) hHeld ?restm400
              case him400 => simp only [List.getElem?_toArray, List.getElem?_cons_succ, List.getElem?_cons_zero]; rfl
              case hQm400 => exact fun _ _ _ h => h
              case hwm400 => rfl
              case hym400 => (intro w9 hSw; skip; go_simp; (try with_reducible rfl))
              case restm400 =>
              try simp only [Act.put, List.setIfInBounds_toArray, List.set_cons_zero, List.set_cons_succ]
              refine wpAnyH_ready (rs := [18]) (by kernel_rfl) (by simp) (AllReadyH.cons (o := ?om401ST) ?im401ST (fun K hK => ?km401ST) AllReadyH.nil)
              case im401ST => simp only [List.getElem?_toArray, List.getElem?_cons_succ, List.getElem?_cons_zero]; rfl
              case km401ST =>
                rw [if_pos (by rfl)]
                obtain ⟨d0, d1, d2, d3, d4⟩ := al.cells
                have fr := fun o => al.free o
                go_simp
                refine hK.out _ _ (hHeld.set5 wB.heap.size hnW _ _ _ _ _) (fun hHeld => ?_)
                clear hK K fr d0 d1 d2 d3 d4
                try simp only [List.setIfInBounds_toArray, List.set_cons_zero, List.set_cons_succ]
                replace al := al.stored n3 k3 u3 h3 (.slice a3 L3.length c3')
                replace rqo := rqo.set5 wB.heap.size hnl (.string n3) (.int .i64 k3) (.string u3) (.string h3) (.slice a3 L3.length c3')
                refine wpAnyH_take (i := 19) (oi := ?oim402) (v := ?vm402) ?him402 (by kernel_rfl) (by kernel_rfl) (by kernel_rfl) ?hQm402 (Or.inl ⟨?hwm402, ?hym402⟩) hHeld ?restm402
                case him402 => simp only [List.getElem?_toArray, List.getElem?_cons_succ, List.getElem?_cons_zero]; rfl
                case hQm402 => exact fun _ _ _ h => h
                case hwm402 => rfl
                case hym402 => (intro w9 hSw; skip; go_simp; (try with_reducible rfl))
                case restm402 =>
                try simp only [Act.put, List.setIfInBounds_toArray, List.set_cons_zero, List.set_cons_succ]
                refine wpAnyH_done (by kernel_rfl) ?_ _
                go_wp2_with fail
                go_meet
                case rel =>
                  obtain ⟨a4, c4', hv4, rq4⟩ := rqo.pts
                  injection hv4 with e1 e2 e3
                  subst e1 e3
                  exact ⟨⟨_, n3, k3, u3, h3, _, _, L3, ok3, rfl, rfl, al, rq4, rt⟩, hHeld⟩
        case km388AL =>
          rw [if_pos (by rfl)]
          go_simp
          have hnW : wc.heap.size ≤ wA.heap.size := hHeld.size
          refine hK.out _ _ (hHeld.alloc _) (fun hHeld => ?_)
          clear hK K
          try simp only [List.setIfInBounds_toArray, List.set_cons_zero, List.set_cons_succ]
          obtain ⟨wN, hwN⟩ : ∃ x, wA.alloc (.cells #[.string ⟨#[]⟩, .int .i64 0, .string ⟨#[]⟩, .string ⟨#[]⟩, .slice none 0 0] 26) = x := ⟨_, rfl⟩
          have xn : Ext wA wN := by rw [← hwN]; exact (Ext.refl _).alloc _
          have al : FamIn wA.heap.size ⟨#[]⟩ 0 ⟨#[]⟩ ⟨#[]⟩ (.slice none 0 0) wN := by rw [← hwN]; exact heap_last _ _
          rw [hwN] at hHeld ⊢
          clear hwN
          have nv : ∀ g, v1.ownBlock = some g → wA.heap.size ≠ g := fun g hg => by have := (ra.lt g hg).2; omega
          replace ra := ra.ext xn
          replace hba := Nat.le_trans hba xn.size
          replace rs := rs.ext xn
          refine wpAnyH_ready (rs := [11]) (by kernel_rfl) (by simp) (AllReadyH.cons (o := ?om403A2) ?im403A2 (fun K hK => ?km403A2) AllReadyH.nil)
          case im403A2 => simp only [List.getElem?_toArray, List.getElem?_cons_succ, List.getElem?_cons_zero]; rfl
          case km403A2 =>
            rw [if_pos (by rfl)]
            obtain ⟨v2, wB, eb, rb, gb, _⟩ := app_row tyPt (fun _ => rfl) ptC_one (by decide) wN 24 PtD.zero wS.heap.size l.length v1 l ra (by first | rfl | rw [List.length_drop]) (by omega) hba ⟨w0.heap.size, 0, none⟩ [p] 1 1 (PtsA.src (rs)) (by first | rfl | (rw [List.length_take]; omega)) (by omega) (by omega)
            have xb : Ext wc wB := grown_ext' hHeld gb (Nat.le_refl _) (fun g hg => by have := (ra.lt g hg).1; omega)
            refine Lib.wp_append_run _ _ _ _ _ rfl _ _ rfl rfl v2 wB eb (hK.out _ _ xb (fun hHeld => ?_))
            clear hK K eb
            try simp only [List.setIfInBounds_toArray, List.set_cons_zero, List.set_cons_succ]
            obtain ⟨a5, c5, hv5, rp⟩ := rb.ptsA (by (simp only [List.length_append, List.length_drop, List.length_take, List.length_singleton]) <;> omega) (fun q hq => (List.mem_append.1 hq).elim (fun hq => (hP.2 q hq).ext (y2.trans xb)) (fun hq => by rw [List.mem_singleton] at hq; rw [hq]; exact hok.ext (y2.trans xb)))
            rw [hLM.out] at hv5 rp
            subst hv5
            clear rb
            replace al := al.grown gb (fun g hg => nv g hg)
            clear nv
            clear gb ra hba
            refine wpAnyH_take (i := 12) (oi := ?oim404) (v := ?vm404) ?him404 (by kernel_rfl) (by kernel_rfl) (by kernel_rfl) ?hQm404 (Or.inl ⟨?hwm404, ?hym404⟩) hHeld ?restm404
            case him404 => simp only [List.getElem?_toArray, List.getElem?_cons_succ, List.getElem?_cons_zero]; rfl
            case hQm404 => exact fun _ _ _ h => h
            case hwm404 => rfl
            case hym404 => (intro w9 hSw; skip; go_simp; (try with_reducible rfl))
            case restm404 =>
            try simp only [Act.put, List.setIfInBounds_toArray, List.set_cons_zero, List.set_cons_succ]
            refine wpAnyH_ready (rs := [13]) (by kernel_rfl) (by simp) (AllReadyH.cons (o := ?om405C) ?im405C (fun K hK => ?km405C) AllReadyH.nil)
            case im405C => simp only [List.getElem?_toArray, List.getElem?_cons_succ, List.getElem?_cons_zero]; rfl
            case km405C =>
              rw [if_pos (by rfl)]
              go_simp
              have CS := fun W (x : Ext wB W) => famSort_any nm kd un he a5 c5 LM W hLM1 hl12 (rp.ext x)
              go_at_call 10
              (with_reducible refine (CS _ (Ext.refl _)).mono ?_)
              rintro e wC ⟨hs, xc⟩
              obtain ⟨n3, k3, u3, h3, a3, c3', L3, ok3, rfl, rqo, rq, rt⟩ := hs.form
              replace rt := Lib.hid rt
              refine hK.out _ _ (hHeld.trans xc) (fun hHeld => ?_)
              clear hK K CS hs rp
              try simp only [List.setIfInBounds_toArray, List.set_cons_zero, List.set_cons_succ]
              have hnl := (Array.getElem?_eq_some_iff.1 al).1
              replace al := al.ext xc
              refine wpAnyH_take (i := 14) (oi := ?oim406) (v := ?vm406) ?him406 (by kernel_rfl) (by kernel_rfl) (by kernel_rfl) ?hQm406 (Or.inl ⟨?hwm406, ?hym406⟩) hHeld ?restm406
              case him406 => simp only [List.getElem?_toArray, List.getElem?_cons_succ, List.getElem?_cons_zero]; rfl
              case hQm406 => exact fun _ _ _ h => h
              case hwm406 => rfl
              case hym406 => (intro w9 hSw; skip; go_simp; (try with_reducible rfl))
              case restm406 =>
              try simp only [Act.put, List.setIfInBounds_toArray, List.set_cons_zero, List.set_cons_succ]
              refine wpAnyH_take (i := 15) (oi := ?oim407) (v := ?vm407) ?him407 (by kernel_rfl) (by kernel_rfl) (by kernel_rfl) ?hQm407 (Or.inl ⟨?hwm407, ?hym407⟩) hHeld ?restm407
              case him407 => simp only [List.getElem?_toArray, List.getElem?_cons_succ, List.getElem?_cons_zero]; rfl
              case hQm407 => exact fun _ _ _ h => h
              case hwm407 => rfl
              case hym407 => (intro w9 hSw; skip; go_simp; (try with_reducible rfl))
              case restm407 =>
              try simp only [Act.put, List.setIfInBounds_toArray, List.set_cons_zero, List.set_cons_succ]
              refine wpAnyH_take (i := 16) (oi := ?oim408) (v := ?vm408) ?him408 (by kernel_rfl) (by kernel_rfl) (by kernel_rfl) ?hQm408 (Or.inl ⟨?hwm408, ?hym408⟩) hHeld ?restm408
              case him408 => simp only [List.getElem?_toArray, List.getElem?_cons_succ, List.getElem?_cons_zero]; rfl
              case hQm408 => exact fun _ _ _ h => h
              case hwm408 => rfl
              case hym408 => (intro w9 hSw; skip; go_simp; (try with_reducible rfl))
              case restm408 =>
              try simp only [Act.put, List.setIfInBounds_toArray, List.set_cons_zero, List.set_cons_succ]
              refine wpAnyH_ready (rs := [18]) (by kernel_rfl) (by simp) (AllReadyH.cons (o := ?om409ST) ?im409ST (fun K hK => ?km409ST) AllReadyH.nil)
              case im409ST => simp only [List.getElem?_toArray, List.getElem?_cons_succ, List.getElem?_cons_zero]; rfl
              case km409ST =>
                rw [if_pos (by rfl)]
                obtain ⟨d0, d1, d2, d3, d4⟩ := al.cells
                have fr := fun o => al.free o
                go_simp
                refine hK.out _ _ (hHeld.set5 wA.heap.size hnW _ _ _ _ _) (fun hHeld => ?_)
                clear hK K fr d0 d1 d2 d3 d4
                try simp only [List.setIfInBounds_toArray, List.set_cons_zero, List.set_cons_succ]
                replace al := al.stored n3 k3 u3 h3 (.slice a3 L3.length c3')
                replace rqo := rqo.set5 wA.heap.size hnl (.string n3) (.int .i64 k3) (.string u3) (.string h3) (.slice a3 L3.length c3')
                refine wpAnyH_take (i := 19) (oi := ?oim410) (v := ?vm410) ?him410 (by kernel_rfl) (by kernel_rfl) (by kernel_rfl) ?hQm410 (Or.inl ⟨?hwm410, ?hym410⟩) hHeld ?restm410
                case him410 => simp only [List.getElem?_toArray, List.getElem?_cons_succ, List.getElem?_cons_zero]; rfl
                case hQm410 => exact fun _ _ _ h => h
                case hwm410 => rfl
                case hym410 => (intro w9 hSw; skip; go_simp; (try with_reducible rfl))
                case restm410 =>
                try simp only [Act.put, List.setIfInBounds_toArray, List.set_cons_zero, List.set_cons_succ]
                refine wpAnyH_done (by kernel_rfl) ?_ _
                go_wp2_with fail
                go_meet
                case rel =>
                  obtain ⟨a4, c4', hv4, rq4⟩ := rqo.pts
                  injection hv4 with e1 e2 e3
                  subst e1 e3
                  exact ⟨⟨_, n3, k3, u3, h3, _, _, L3, ok3, rfl, rfl, al, rq4, rt⟩, hHeld⟩
      case km387AL =>
        rw [if_pos (by rfl)]
        go_simp
        have hnW : wc.heap.size ≤ wS.heap.size := hHeld.size
        refine hK.out _ _ (hHeld.alloc _) (fun hHeld => ?_)
        clear hK K
        try simp only [List.setIfInBounds_toArray, List.set_cons_zero, List.set_cons_succ]
        obtain ⟨wN, hwN⟩ : ∃ x, wS.alloc (.cells #[.string ⟨#[]⟩, .int .i64 0, .string ⟨#[]⟩, .string ⟨#[]⟩, .slice none 0 0] 26) = x := ⟨_, rfl⟩
        have xn : Ext wS wN := by rw [← hwN]; exact (Ext.refl _).alloc _
        have al : FamIn wS.heap.size ⟨#[]⟩ 0 ⟨#[]⟩ ⟨#[]⟩ (.slice none 0 0) wN := by rw [← hwN]; exact heap_last _ _
        rw [hwN] at hHeld ⊢
        clear hwN
        replace rs := rs.ext xn
        refine wpAnyH_ready (rs := [4]) (by kernel_rfl) (by simp) (AllReadyH.cons (o := ?om411A1) ?im411A1 (fun K hK => ?km411A1) AllReadyH.nil)
        case im411A1 => simp only [List.getElem?_toArray, List.getElem?_cons_succ, List.getElem?_cons_zero]; rfl
        case km411A1 =>
          rw [if_pos (by rfl)]
          have hbW : wc.heap.size ≤ wN.heap.size := hHeld.size
          obtain ⟨v1, wA, ea, ra, xa⟩ := app_nil tyPt (fun _ => rfl) ptC_one (by decide) wN 24 PtD.zero ⟨b, o, none⟩ l l.length c (PtsA.src (hP.ext (y2.trans hHeld))) (by first | rfl | rw [List.length_drop]) (by omega) (by omega) (by omega)
          refine Lib.wp_append_run _ _ _ _ _ rfl _ _ rfl rfl v1 wA ea (hK.out _ _ (hHeld.trans xa) (fun hHeld => ?_))
          clear hK K ea
          try simp only [List.setIfInBounds_toArray, List.set_cons_zero, List.set_cons_succ]
          have hba : wN.heap.size ≤ wA.heap.size := xa.size
          have hnl := (Array.getElem?_eq_some_iff.1 al).1
          have nv : ∀ g, v1.ownBlock = some g → wS.heap.size ≠ g := fun g hg => by have := (ra.lt g hg).1; omega
          replace al := al.ext xa
          replace rs := rs.ext xa
          refine wpAnyH_ready (rs := [11]) (by kernel_rfl) (by simp) (AllReadyH.cons (o := ?om412A2) ?im412A2 (fun K hK => ?km412A2) AllReadyH.nil)
          case im412A2 => simp only [List.getElem?_toArray, List.getElem?_cons_succ, List.getElem?_cons_zero]; rfl
          case km412A2 =>
            rw [if_pos (by rfl)]
            obtain ⟨v2, wB, eb, rb, gb, _⟩ := app_row tyPt (fun _ => rfl) ptC_one (by decide) wA 24 PtD.zero wN.heap.size l.length v1 l ra (by first | rfl | rw [List.length_drop]) (by omega) hba ⟨w0.heap.size, 0, none⟩ [p] 1 1 (PtsA.src (rs)) (by first | rfl | (rw [List.length_take]; omega)) (by omega) (by omega)
            have xb : Ext wc wB := grown_ext' hHeld gb (Nat.le_refl _) (fun g hg => by have := (ra.lt g hg).1; omega)
            refine Lib.wp_append_run _ _ _ _ _ rfl _ _ rfl rfl v2 wB eb (hK.out _ _ xb (fun hHeld => ?_))
            clear hK K eb
            try simp only [List.setIfInBounds_toArray, List.set_cons_zero, List.set_cons_succ]
            obtain ⟨a5, c5, hv5, rp⟩ := rb.ptsA (by (simp only [List.length_append, List.length_drop, List.length_take, List.length_singleton]) <;> omega) (fun q hq => (List.mem_append.1 hq).elim (fun hq => (hP.2 q hq).ext (y2.trans xb)) (fun hq => by rw [List.mem_singleton] at hq; rw [hq]; exact hok.ext (y2.trans xb)))
            rw [hLM.out] at hv5 rp
            subst hv5
            clear rb
            replace al := al.grown gb (fun g hg => nv g hg)
            clear nv
            clear gb ra hba
            refine wpAnyH_take (i := 12) (oi := ?oim413) (v := ?vm413) ?him413 (by kernel_rfl) (by kernel_rfl) (by kernel_rfl) ?hQm413 (Or.inl ⟨?hwm413, ?hym413⟩) hHeld ?restm413
            case him413 => simp only [List.getElem?_toArray, List.getElem?_cons_succ, List.getElem?_cons_zero]; rfl
            case hQm413 => exact fun _ _ _ h => h
            case hwm413 => rfl
            case hym413 => (intro w9 hSw; skip; go_simp; (try with_reducible rfl))
            case restm413 =>
            try simp only [Act.put, List.setIfInBounds_toArray, List.set_cons_zero, List.set_cons_succ]
            refine wpAnyH_ready (rs := [13]) (by kernel_rfl) (by simp) (AllReadyH.cons (o := ?om414C) ?im414C (fun K hK => ?km414C) AllReadyH.nil)
            case im414C => simp only [List.getElem?_toArray, List.getElem?_cons_succ, List.getElem?_cons_zero]; rfl
            case km414C =>
              rw [if_pos (by rfl)]
              go_simp
              have CS := fun W (x : Ext wB W) => famSort_any nm kd un he a5 c5 LM W hLM1 hl12 (rp.ext x)
              go_at_call 10
              (with_reducible refine (CS _ (Ext.refl _)).mono ?_)
              rintro e wC ⟨hs, xc⟩
              obtain ⟨n3, k3, u3, h3, a3, c3', L3, ok3, rfl, rqo, rq, rt⟩ := hs.form
              replace rt := Lib.hid rt
              refine hK.out _ _ (hHeld.trans xc) (fun hHeld => ?_)
              clear hK K CS hs rp
              try simp only [List.setIfInBounds_toArray, List.set_cons_zero, List.set_cons_succ]
              have hnl := (Array.getElem?_eq_some_iff.1 al).1
              replace al := al.ext xc
              refine wpAnyH_take (i := 14) (oi := ?oim415) (v := ?vm415) ?him415 (by kernel_rfl) (by kernel_rfl) (by kernel_rfl) ?hQm415 (Or.inl ⟨?hwm415, ?hym415⟩) hHeld ?restm415
              case him415 => simp only [List.getElem?_toArray, List.getElem?_cons_succ, List.getElem?_cons_zero]; rfl
              case hQm415 => exact fun _ _ _ h => h
              case hwm415 => rfl
              case hym415 => (intro w9 hSw; skip; go_simp; (try with_reducible rfl))
              case restm415 =>
              try simp only [Act.put, List.setIfInBounds_toArray, List.set_cons_zero, List.set_cons_succ]
              refine wpAnyH_take (i := 15) (oi := ?oim416) (v := ?vm416) ?him416 (by kernel_rfl) (by kernel_rfl) (by kernel_rfl) ?hQm416 (Or.inl ⟨?hwm416, ?hym416⟩) hHeld ?restm416
              case him416 => simp only [List.getElem?_toArray, List.getElem?_cons_succ, List.getElem?_cons_zero]; rfl
              case hQm416 => exact fun _ _ _ h => h
              case hwm416 => rfl
              case hym416 => (intro w9 hSw; skip; go_simp; (try with_reducible rfl))
              case restm416 =>
              try simp only [Act.put, List.setIfInBounds_toArray, List.set_cons_zero, List.set_cons_succ]
              refine wpAnyH_take (i := 16) (oi := ?oim417) (v := ?vm417) ?him417 (by kernel_rfl) (by kernel_rfl) (by kernel_rfl) ?hQm417 (Or.inl ⟨?hwm417, ?hym417⟩) hHeld ?restm417
              case him417 => simp only [List.getElem?_toArray, List.getElem?_cons_succ, List.getElem?_cons_zero]; rfl
              case hQm417 => exact fun _ _ _ h => h
              case hwm417 => rfl
              case hym417 => (intro w9 hSw; skip; go_simp; (try with_reducible rfl))
              case restm417 =>
              try simp only [Act.put, List.setIfInBounds_toArray, List.set_cons_zero, List.set_cons_succ]
              refine wpAnyH_ready (rs := [18]) (by kernel_rfl) (by simp) (AllReadyH.cons (o := ?om418ST) ?im418ST (fun K hK => ?km418ST) AllReadyH.nil)
              case im418ST => simp only [List.getElem?_toArray, List.getElem?_cons_succ, List.getElem?_cons_zero]; rfl
              case km418ST =>
                rw [if_pos (by rfl)]
                obtain ⟨d0, d1, d2, d3, d4⟩ := al.cells
                have fr := fun o => al.free o
                go_simp
                refine hK.out _ _ (hHeld.set5 wS.heap.size hnW _ _ _ _ _) (fun hHeld => ?_)
                clear hK K fr d0 d1 d2 d3 d4
                try simp only [List.setIfInBounds_toArray, List.set_cons_zero, List.set_cons_succ]
                replace al := al.stored n3 k3 u3 h3 (.slice a3 L3.length c3')
                replace rqo := rqo.set5 wS.heap.size hnl (.string n3) (.int .i64 k3) (.string u3) (.string h3) (.slice a3 L3.length c3')
                refine wpAnyH_take (i := 19) (oi := ?oim419) (v := ?vm419) ?him419 (by kernel_rfl) (by kernel_rfl) (by kernel_rfl) ?hQm419 (Or.inl ⟨?hwm419, ?hym419⟩) hHeld ?restm419
                case him419 => simp only [List.getElem?_toArray, List.getElem?_cons_succ, List.getElem?_cons_zero]; rfl
                case hQm419 => exact fun _ _ _ h => h
                case hwm419 => rfl
                case hym419 => (intro w9 hSw; skip; go_simp; (try with_reducible rfl))
                case restm419 =>
                try simp only [Act.put, List.setIfInBounds_toArray, List.set_cons_zero, List.set_cons_succ]
                refine wpAnyH_done (by kernel_rfl) ?_ _
                go_wp2_with fail
                go_meet
                case rel =>
                  obtain ⟨a4, c4', hv4, rq4⟩ := rqo.pts
                  injection hv4 with e1 e2 e3
                  subst e1 e3
                  exact ⟨⟨_, n3, k3, u3, h3, _, _, L3, ok3, rfl, rfl, al, rq4, rt⟩, hHeld⟩
    case km353AL =>
      rw [if_pos (by rfl)]
      go_simp
      have hnW : wc.heap.size ≤ w0.heap.size := hHeld.size
      refine hK.out _ _ (hHeld.alloc _) (fun hHeld => ?_)
      clear hK K
      try simp only [List.setIfInBounds_toArray, List.set_cons_zero, List.set_cons_succ]
      obtain ⟨wN, hwN⟩ : ∃ x, w0.alloc (.cells #[.string ⟨#[]⟩, .int .i64 0, .string ⟨#[]⟩, .string ⟨#[]⟩, .slice none 0 0] 26) = x := ⟨_, rfl⟩
      have xn : Ext w0 wN := by rw [← hwN]; exact (Ext.refl _).alloc _
      have al : FamIn w0.heap.size ⟨#[]⟩ 0 ⟨#[]⟩ ⟨#[]⟩ (.slice none 0 0) wN := by rw [← hwN]; exact heap_last _ _
      rw [hwN] at hHeld ⊢
      clear hwN
      refine wpAnyH_ready (rs := [4, 10]) (by kernel_rfl) (by simp) (AllReadyH.cons (o := ?om420A1) ?im420A1 (fun K hK => ?km420A1) (AllReadyH.cons (o := ?om420BS) ?im420BS (fun K hK => ?km420BS) AllReadyH.nil))
      case im420A1 => simp only [List.getElem?_toArray, List.getElem?_cons_succ, List.getElem?_cons_zero]; rfl
      case im420BS => simp only [List.getElem?_toArray, List.getElem?_cons_succ, List.getElem?_cons_zero]; rfl
      case km420A1 =>
        rw [if_pos (by rfl)]
        have hbW : wc.heap.size ≤ wN.heap.size := hHeld.size
        obtain ⟨v1, wA, ea, ra, xa⟩ := app_nil tyPt (fun _ => rfl) ptC_one (by decide) wN 24 PtD.zero ⟨b, o, none⟩ l l.length c (PtsA.src (hP.ext (y2.trans hHeld))) (by first | rfl | rw [List.length_drop]) (by omega) (by omega) (by omega)
        refine Lib.wp_append_run _ _ _ _ _ rfl _ _ rfl rfl v1 wA ea (hK.out _ _ (hHeld.trans xa) (fun hHeld => ?_))
        clear hK K ea
        try simp only [List.setIfInBounds_toArray, List.set_cons_zero, List.set_cons_succ]
        have hba : wN.heap.size ≤ wA.heap.size := xa.size
        have hnl := (Array.getElem?_eq_some_iff.1 al).1
        have nv : ∀ g, v1.ownBlock = some g → w0.heap.size ≠ g := fun g hg => by have := (ra.lt g hg).1; omega
        replace al := al.ext xa
        refine wpAnyH_ready (rs := [10]) (by kernel_rfl) (by simp) (AllReadyH.cons (o := ?om421BS) ?im421BS (fun K hK => ?km421BS) AllReadyH.nil)
        case im421BS => simp only [List.getElem?_toArray, List.getElem?_cons_succ, List.getElem?_cons_zero]; rfl
        case km421BS =>
          rw [if_pos (by rfl)]
          go_simp
          refine hK.out _ _ (hHeld.alloc _) (fun hHeld => ?_)
          clear hK K
          try simp only [List.setIfInBounds_toArray, List.set_cons_zero, List.set_cons_succ]
          obtain ⟨wS, hwS⟩ : ∃ x, wA.alloc (.cells #[.slice p.a p.l.length p.c, .int .i64 p.r, .bool p.f, .int .i64 p.M, .int .i64 p.S, .int .i64 p.m, .int .i64 p.s, .bool p.t, .int .i64 p.T] 35) = x := ⟨_, rfl⟩
          have xs : Ext wA wS := by rw [← hwS]; exact (Ext.refl _).alloc _
          have rs : PtsA (some ⟨wA.heap.size, 0, none⟩) [p] wS := by rw [← hwS]; exact PtsA.one (heap_last _ _) (by rw [hwS]; rw [hwS] at hHeld; exact hok.ext (y2.trans hHeld)) 
          rw [hwS] at hHeld ⊢
          clear hwS
          replace al := al.ext xs
          replace ra := ra.ext xs
          replace hba := Nat.le_trans hba xs.size
          refine wpAnyH_ready (rs := [11]) (by kernel_rfl) (by simp) (AllReadyH.cons (o := ?om422A2) ?im422A2 (fun K hK => ?km422A2) AllReadyH.nil)
          case im422A2 => simp only [List.getElem?_toArray, List.getElem?_cons_succ, List.getElem?_cons_zero]; rfl
          case km422A2 =>
            rw [if_pos (by rfl)]
            obtain ⟨v2, wB, eb, rb, gb, _⟩ := app_row tyPt (fun _ => rfl) ptC_one (by decide) wS 24 PtD.zero wN.heap.size l.length v1 l ra (by first | rfl | rw [List.length_drop]) (by omega) hba ⟨wA.heap.size, 0, none⟩ [p] 1 1 (PtsA.src (rs)) (by first | rfl | (rw [List.length_take]; omega)) (by omega) (by omega)
            have xb : Ext wc wB := grown_ext' hHeld gb (Nat.le_refl _) (fun g hg => by have := (ra.lt g hg).1; omega)
            refine Lib.wp_append_run _ _ _ _ _ rfl _ _ rfl rfl v2 wB eb (hK.out _ _ xb (fun hHeld => ?_))
            clear hK K eb
            try simp only [List.setIfInBounds_toArray, List.set_cons_zero, List.set_cons_succ]
            obtain ⟨a5, c5, hv5, rp⟩ := rb.ptsA (by (simp only [List.length_append, List.length_drop, List.length_take, List.length_singleton]) <;> omega) (fun q hq => (List.mem_append.1 hq).elim (fun hq => (hP.2 q hq).ext (y2.trans xb)) (fun hq => by rw [List.mem_singleton] at hq; rw [hq]; exact hok.ext (y2.trans xb)))
            rw [hLM.out] at hv5 rp
            subst hv5
            clear rb
            replace al := al.grown gb (fun g hg => nv g hg)
            clear nv
            clear gb ra hba
            refine wpAnyH_take (i := 12) (oi := ?oim423) (v := ?vm423) ?him423 (by kernel_rfl) (by kernel_rfl) (by kernel_rfl) ?hQm423 (Or.inl ⟨?hwm423, ?hym423⟩) hHeld ?restm423
            case him423 => simp only [List.getElem?_toArray, List.getElem?_cons_succ, List.getElem?_cons_zero]; rfl
            case hQm423 => exact fun _ _ _ h => h
            case hwm423 => rfl
            case hym423 => (intro w9 hSw; skip; go_simp; (try with_reducible rfl))
            case restm423 =>
            try simp only [Act.put, List.setIfInBounds_toArray, List.set_cons_zero, List.set_cons_succ]
            refine wpAnyH_ready (rs := [13]) (by kernel_rfl) (by simp) (AllReadyH.cons (o := ?om424C) ?im424C (fun K hK => ?km424C) AllReadyH.nil)
            case im424C => simp only [List.getElem?_toArray, List.getElem?_cons_succ, List.getElem?_cons_zero]; rfl
            case km424C =>
              rw [if_pos (by rfl)]
              go_simp
              have CS := fun W (x : Ext wB W) => famSort_any nm kd un he a5 c5 LM W hLM1 hl12 (rp.ext x)
              go_at_call 10
              (with_reducible refine (CS _ (Ext.refl _)).mono ?_)
              rintro e wC ⟨hs, xc⟩
              obtain ⟨n3, k3, u3, h3, a3, c3', L3, ok3, rfl, rqo, rq, rt⟩ := hs.form
              replace rt := Lib.hid rt
              refine hK.out _ _ (hHeld.trans xc) (fun hHeld => ?_)
              clear hK K CS hs rp
              try simp only [List.setIfInBounds_toArray, List.set_cons_zero, List.set_cons_succ]
              have hnl := (Array.getElem?_eq_some_iff.1 al).1
              replace al := al.ext xc
              refine wpAnyH_take (i := 14) (oi := ?oim425) (v := ?vm425) ?him425 (by kernel_rfl) (by kernel_rfl) (by kernel_rfl) ?hQm425 (Or.inl ⟨?hwm425, ?hym425⟩) hHeld ?restm425
              case him425 => simp only [List.getElem?_toArray, List.getElem?_cons_succ, List.getElem?_cons_zero]; rfl
              case hQm425 => exact fun _ _ _ h => h
              case hwm425 => rfl
              case hym425 => (intro w9 hSw; skip; go_simp; (try with_reducible rfl))
              case restm425 =>
              try simp only [Act.put, List.setIfInBounds_toArray, List.set_cons_zero, List.set_cons_succ]
              refine wpAnyH_take (i := 15) (oi := ?oim426) (v := ?vm426) ?him426 (by kernel_rfl) (by kernel_rfl) (by kernel_rfl) ?hQm426 (Or.inl ⟨?hwm426, ?hym426⟩) hHeld ?restm426
              case him426 => simp only [List.getElem?_toArray, List.getElem?_cons_succ, List.getElem?_cons_zero]; rfl
              case hQm426 => exact fun _ _ _ h => h
              case hwm426 => rfl
              case hym426 => (intro w9 hSw; skip; go_simp; (try with_reducible rfl))
              case restm426 =>
              try simp only [Act.put, List.setIfInBounds_toArray, List.set_cons_zero, List.set_cons_succ]
              refine wpAnyH_take (i := 16) (oi := ?oim427) (v := ?vm427) ?him427 (by kernel_rfl) (by kernel_rfl) (by kernel_rfl) ?hQm427 (Or.inl ⟨?hwm427, ?hym427⟩) hHeld ?restm427
              case him427 => simp only [List.getElem?_toArray, List.getElem?_cons_succ, List.getElem?_cons_zero]; rfl
              case hQm427 => exact fun _ _ _ h => h
              case hwm427 => rfl
              case hym427 => (intro w9 hSw; skip; go_simp; (try with_reducible rfl))
              case restm427 =>
              try simp only [Act.put, List.setIfInBounds_toArray, List.set_cons_zero, List.set_cons_succ]
              refine wpAnyH_ready (rs := [18]) (by kernel_rfl) (by simp) (AllReadyH.cons (o := ?om428ST) ?im428ST (fun K hK => ?km428ST) AllReadyH.nil)
              case im428ST => simp only [List.getElem?_toArray, List.getElem?_cons_succ, List.getElem?_cons_zero]; rfl
              case km428ST =>
                rw [if_pos (by rfl)]
                obtain ⟨d0, d1, d2, d3, d4⟩ := al.cells
                have fr := fun o => al.free o
                go_simp
                refine hK.out _ _ (hHeld.set5 w0.heap.size hnW _ _ _ _ _) (fun hHeld => ?_)
                clear hK K fr d0 d1 d2 d3 d4
                try simp only [List.setIfInBounds_toArray, List.set_cons_zero, List.set_cons_succ]
                replace al := al.stored n3 k3 u3 h3 (.slice a3 L3.length c3')
                replace rqo := rqo.set5 w0.heap.size hnl (.string n3) (.int .i64 k3) (.string u3) (.string h3) (.slice a3 L3.length c3')
                refine wpAnyH_take (i := 19) (oi := ?oim429) (v := ?vm429) ?him429 (by kernel_rfl) (by kernel_rfl) (by kernel_rfl) ?hQm429 (Or.inl ⟨?hwm429, ?hym429⟩) hHeld ?restm429
                case him429 => simp only [List.getElem?_toArray, List.getElem?_cons_succ, List.getElem?_cons_zero]; rfl
                case hQm429 => exact fun _ _ _ h => h
                case hwm429 => rfl
                case hym429 => (intro w9 hSw; skip; go_simp; (try with_reducible rfl))
                case restm429 =>
                try simp only [Act.put, List.setIfInBounds_toArray, List.set_cons_zero, List.set_cons_succ]
                refine wpAnyH_done (by kernel_rfl) ?_ _
                go_wp2_with fail
                go_meet
                case rel =>
                  obtain ⟨a4, c4', hv4, rq4⟩ := rqo.pts
                  injection hv4 with e1 e2 e3
                  subst e1 e3
                  exact ⟨⟨_, n3, k3, u3, h3, _, _, L3, ok3, rfl, rfl, al, rq4, rt⟩, hHeld⟩
      case km420BS =>
        rw [if_pos (by rfl)]
        go_simp
        refine hK.out _ _ (hHeld.alloc _) (fun hHeld => ?_)
        clear hK K
        try simp only [List.setIfInBounds_toArray, List.set_cons_zero, List.set_cons_succ]
        obtain ⟨wS, hwS⟩ : ∃ x, wN.alloc (.cells #[.slice p.a p.l.length p.c, .int .i64 p.r, .bool p.f, .int .i64 p.M, .int .i64 p.S, .int .i64 p.m, .int .i64 p.s, .bool p.t, .int .i64 p.T] 35) = x := ⟨_, rfl⟩
        have xs : Ext wN wS := by rw [← hwS]; exact (Ext.refl _).alloc _
        have rs : PtsA (some ⟨wN.heap.size, 0, none⟩) [p] wS := by rw [← hwS]; exact PtsA.one (heap_last _ _) (by rw [hwS]; rw [hwS] at hHeld; exact hok.ext (y2.trans hHeld)) 
        rw [hwS] at hHeld ⊢
        clear hwS
        replace al := al.ext xs
        refine wpAnyH_ready (rs := [4]) (by kernel_rfl) (by simp) (AllReadyH.cons (o := ?om430A1) ?im430A1 (fun K hK => ?km430A1) AllReadyH.nil)
        case im430A1 => simp only [List.getElem?_toArray, List.getElem?_cons_succ, List.getElem?_cons_zero]; rfl
        case km430A1 =>
          rw [if_pos (by rfl)]
          have hbW : wc.heap.size ≤ wS.heap.size := hHeld.size
          obtain ⟨v1, wA, ea, ra, xa⟩ := app_nil tyPt (fun _ => rfl) ptC_one (by decide) wS 24 PtD.zero ⟨b, o, none⟩ l l.length c (PtsA.src (hP.ext (y2.trans hHeld))) (by first | rfl | rw [List.length_drop]) (by omega) (by omega) (by omega)
          refine Lib.wp_append_run _ _ _ _ _ rfl _ _ rfl rfl v1 wA ea (hK.out _ _ (hHeld.trans xa) (fun hHeld => ?_))
          clear hK K ea
          try simp only [List.setIfInBounds_toArray, List.set_cons_zero, List.set_cons_succ]
          have hba : wS.heap.size ≤ wA.heap.size := xa.size
          have hnl := (Array.getElem?_eq_some_iff.1 al).1
          have nv : ∀ g, v1.ownBlock = some g → w0.heap.size ≠ g := fun g hg => by have := (ra.lt g hg).1; omega
          replace al := al.ext xa
          replace rs := rs.ext xa
          refine wpAnyH_ready (rs := [11]) (by kernel_rfl) (by simp) (AllReadyH.cons (o := ?om431A2) ?im431A2 (fun K hK => ?km431A2) AllReadyH.nil)
          case im431A2 => simp only [List.getElem?_toArray, List.getElem?_cons_succ, List.getElem?_cons_zero]; rfl
          case km431A2 =>
            rw [if_pos (by rfl)]
            obtain ⟨v2, wB, eb, rb, gb, _⟩ := app_row tyPt (fun _ => rfl) ptC_one (by decide) wA 24 PtD.zero wS.heap.size l.length v1 l ra (by first | rfl | rw [List.length_drop]) (by omega) hba ⟨wN.heap.size, 0, none⟩ [p] 1 1 (PtsA.src (rs)) (by first | rfl | (rw [List.length_take]; omega)) (by omega) (by omega)
            have xb : Ext wc wB := grown_ext' hHeld gb (Nat.le_refl _) (fun g hg => by have := (ra.lt g hg).1; omega)
            refine Lib.wp_append_run _ _ _ _ _ rfl _ _ rfl rfl v2 wB eb (hK.out _ _ xb (fun hHeld => ?_))
            clear hK K eb
            try simp only [List.setIfInBounds_toArray, List.set_cons_zero, List.set_cons_succ]
            obtain ⟨a5, c5, hv5, rp⟩ := rb.ptsA (by (simp only [List.length_append, List.length_drop, List.length_take, List.length_singleton]) <;> omega) (fun q hq => (List.mem_append.1 hq).elim (fun hq => (hP.2 q hq).ext (y2.trans xb)) (fun hq => by rw [List.mem_singleton] at hq; rw [hq]; exact hok.ext (y2.trans xb)))
            rw [hLM.out] at hv5 rp
            subst hv5
            clear rb
            replace al := al.grown gb (fun g hg => nv g hg)
            clear nv
            clear gb ra hba
            refine wpAnyH_take (i := 12) (oi := ?oim432) (v := ?vm432) ?him432 (by kernel_rfl) (by kernel_rfl) (by kernel_rfl) ?hQm432 (Or.inl ⟨?hwm432, ?hym432⟩) hHeld ?restm432
            case him432 => simp only [List.getElem?_toArray, List.getElem?_cons_succ, List.getElem?_cons_zero]; rfl
            case hQm432 => exact fun _ _ _ h => h
            case hwm432 => rfl
            case hym432 => (intro w9 hSw; skip; go_simp; (try with_reducible rfl))
            case restm432 =>
            try simp only [Act.put, List.setIfInBounds_toArray, List.set_cons_zero, List.set_cons_succ]
            refine wpAnyH_ready (rs := [13]) (by kernel_rfl) (by simp) (AllReadyH.cons (o := ?om433C) ?im433C (fun K hK => ?km433C) AllReadyH.nil)
            case im433C => simp only [List.getElem?_toArray, List.getElem?_cons_succ, List.getElem?_cons_zero]; rfl
            case km433C =>
              rw [if_pos (by rfl)]
              go_simp
              have CS := fun W (x : Ext wB W) => famSort_any nm kd un he a5 c5 LM W hLM1 hl12 (rp.ext x)
              go_at_call 10
              (with_reducible refine (CS _ (Ext.refl _)).mono ?_)
              rintro e wC ⟨hs, xc⟩
              obtain ⟨n3, k3, u3, h3, a3, c3', L3, ok3, rfl, rqo, rq, rt⟩ := hs.form
              replace rt := Lib.hid rt
              refine hK.out _ _ (hHeld.trans xc) (fun hHeld => ?_)
              clear hK K CS hs rp
              try simp only [List.setIfInBounds_toArray, List.set_cons_zero, List.set_cons_succ]
              have hnl := (Array.getElem?_eq_some_iff.1 al).1
              replace al := al.ext xc
              refine wpAnyH_take (i := 14) (oi := ?oim434) (v := ?vm434) ?him434 (by kernel_rfl) (by kernel_rfl) (by kernel_rfl) ?hQm434 (Or.inl ⟨?hwm434, ?hym434⟩) hHeld ?restm434
              case him434 => simp only [List.getElem?_toArray, List.getElem?_cons_succ, List.getElem?_cons_zero]; rfl
              case hQm434 => exact fun _ _ _ h => h
              case hwm434 => rfl
              case hym434 => (intro w9 hSw; skip; go_simp; (try with_reducible rfl))
              case restm434 =>
              try simp only [Act.put, List.setIfInBounds_toArray, List.set_cons_zero, List.set_cons_succ]
              refine wpAnyH_take (i := 15) (oi := ?oim435) (v := ?vm435) ?him435 (by kernel_rfl) (by kernel_rfl) (by kernel_rfl) ?hQm435 (Or.inl ⟨?hwm435, ?hym435⟩) hHeld ?restm435
              case him435 => simp only [List.getElem?_toArray, List.getElem?_cons_succ, List.getElem?_cons_zero]; rfl
              case hQm435 => exact fun _ _ _ h => h
              case hwm435 => rfl
              case hym435 => (intro w9 hSw; skip; go_simp; (try with_reducible rfl))
              case restm435 =>
              try simp only [Act.put, List.setIfInBounds_toArray, List.set_cons_zero, List.set_cons_succ]
              refine wpAnyH_take (i := 16) (oi := ?oim436) (v := ?vm436) ?him436 (by kernel_rfl) (by kernel_rfl) (by kernel_rfl) ?hQm436 (Or.inl ⟨?hwm436, ?hym436⟩) hHeld ?restm436
              case him436 => simp only [List.getElem?_toArray, List.getElem?_cons_succ, List.getElem?_cons_zero]; rfl
              case hQm436 => exact fun _ _ _ h => h
              case hwm436 => rfl
              case hym436 => (intro w9 hSw; skip; go_simp; (try with_reducible rfl))
              case restm436 =>
              try simp only [Act.put, List.setIfInBounds_toArray, List.set_cons_zero, List.set_cons_succ]
              refine wpAnyH_ready (rs := [18]) (by kernel_rfl) (by simp) (AllReadyH.cons (o := ?om437ST) ?im437ST (fun K hK => ?km437ST) AllReadyH.nil)
              case im437ST => simp only [List.getElem?_toArray, List.getElem?_cons_succ, List.getElem?_cons_zero]; rfl
              case km437ST =>
                rw [if_pos (by rfl)]
                obtain ⟨d0, d1, d2, d3, d4⟩ := al.cells
                have fr := fun o => al.free o
                go_simp
                refine hK.out _ _ (hHeld.set5 w0.heap.size hnW _ _ _ _ _) (fun hHeld => ?_)
                clear hK K fr d0 d1 d2 d3 d4
                try simp only [List.setIfInBounds_toArray, List.set_cons_zero, List.set_cons_succ]
                replace al := al.stored n3 k3 u3 h3 (.slice a3 L3.length c3')
                replace rqo := rqo.set5 w0.heap.size hnl (.string n3) (.int .i64 k3) (.string u3) (.string h3) (.slice a3 L3.length c3')
                refine wpAnyH_take (i := 19) (oi := ?oim438) (v := ?vm438) ?him438 (by kernel_rfl) (by kernel_rfl) (by kernel_rfl) ?hQm438 (Or.inl ⟨?hwm438, ?hym438⟩) hHeld ?restm438
                case him438 => simp only [List.getElem?_toArray, List.getElem?_cons_succ, List.getElem?_cons_zero]; rfl
                case hQm438 => exact fun _ _ _ h => h
                case hwm438 => rfl
                case hym438 => (intro w9 hSw; skip; go_simp; (try with_reducible rfl))
                case restm438 =>
                try simp only [Act.put, List.setIfInBounds_toArray, List.set_cons_zero, List.set_cons_succ]
                refine wpAnyH_done (by kernel_rfl) ?_ _
                go_wp2_with fail
                go_meet
                case rel =>
                  obtain ⟨a4, c4', hv4, rq4⟩ := rqo.pts
                  injection hv4 with e1 e2 e3
                  subst e1 e3
                  exact ⟨⟨_, n3, k3, u3, h3, _, _, L3, ok3, rfl, rfl, al, rq4, rt⟩, hHeld⟩
  case rest =>
  obtain ⟨⟨nN, n4, k4, u4, h4, a4, c4', L4, ok4, rfl, rfl, gN, hP4, rN⟩, y4⟩ := hcut
  clear hl12 hLM1
  replace gA := gA.ext y4
  replace g1 := g1.ext y4
  replace gT := gT.ext y4
  replace hPL := hPL.ext y4
  replace hP3 := hP3.ext y4
  replace z1 := z1.trans y4
  clear c0 c1 c2' c3 c4 y2 y4 hbb hBB hP hok p0 p1 p2 p3 p4 p5 p6 p7 p8 hP4
  have two := Cas.two hcase.out rT.out (by rw [← hLL.out]; exact (turned l k).map _)
  have no : ok4 = false := Cas.no (by rw [← hLM.out] at rN; exact rN.out) hpm
  subst no
  obtain ⟨rfl, two⟩ := two
  clear rT rN hLL hLM gN
  obtain ⟨c0, c1, c2', c3, c4⟩ := g1.cells
  obtain ⟨d0, d1, d2, d3, d4⟩ := gA.cells
  obtain ⟨e0, e1, e2, e3, e4⟩ := gT.cells
  cases ok3
  · obtain ⟨rfl, rfl⟩ := hcase.out.fail
    clear two hcase
    go_wp2_with fail
    go_ret
    exact ⟨rfl, z1⟩
  obtain ⟨rfl, rfl, rfl, rfl, hper, hris⟩ := hcase.out.good
  obtain ⟨rfl, rfl, rfl, rfl, hL3⟩ := two rfl
  clear two hcase
  have hlen : L.length = l.length := by have := hper.length_eq; simpa using this
  have hlen3 : L3.length = L.length := by have := congrArg List.length hL3; simpa using this
  have SM := fun W (x : Ext wc W) => famSame_any n3 k3 u3 h3 a2 cA L n3 k3 u3 h3 a3 c3' L3 W (by omega) (by omega) (hPL.ext x) (hP3.ext x)
  rw [hL3, sameYs_refl, show headB n3 k3 u3 h3 n3 k3 u3 h3 = true from by simp [headB]] at SM
  have hLl : (L.length : Int) = (l.length : Int) := by omega
  have hL12 : ∀ q ∈ L, q.l.length ≤ 1000 := fun q hq => by
    have h1 : q.y ∈ l.map PtD.y := hper.subset (List.mem_map_of_mem hq)
    obtain ⟨q', hq', e⟩ := List.mem_map.1 h1
    have hz2 := h12 q' hq'
    have hz3 : q'.l = q.l := congrArg (fun z : PtY => z.1.l) e
    rw [← hz3]; omega
  have hLp : 0 < L.length := by omega
  have hLm : L.length ≤ 40 := by omega
  replace hris := Lib.hid hris
  clear hper hL3 hlen hlen3 hP3 h0 h0' hlpos
  go_wp2_with fail
  (with_reducible refine (SM _ (Ext.refl _)).mono ?_)
  rintro e w5 ⟨rfl, y5⟩
  replace gA := gA.ext y5
  replace hPL := hPL.ext y5
  replace z1 := z1.trans y5
  clear SM c0 c1 c2' c3 c4 d0 d1 d2 d3 d4 e0 e1 e2 e3 e4 g1 gT y5 hLl hlc hcm hlm hkl ht1 ht2 hk kc hck kl kle kce h40 h12
  go_wp2_with fail
  go_loopw [12] (fun i wr => ∃ j : Nat, i = .int .i64 ((j + 1 : Nat) : Int) ∧ j + 1 ≤ L.length ∧ Ext w5 wr) (fun i _ => L.length - (intOf i).toNat)
  case atStart => exact ⟨0, rfl, hLp, Ext.refl _⟩
  case round =>
    obtain ⟨j, rfl, hj, xr⟩ := hrel
    replace gA := gA.ext xr
    obtain ⟨d0, d1, d2, d3, d4⟩ := gA.cells
    have hAA : w3.heap.size < wr.heap.size := (Array.getElem?_eq_some_iff.1 gA).1
    by_cases hlt : j + 1 < L.length
    · obtain ⟨rb, ro, rfl, hrb, hLL⟩ := hPL.1 hLp
      have hrr : rb < wr.heap.size := Nat.lt_of_lt_of_le hrb xr.size
      have ok1 := (hPL.2 _ (List.getElem_mem (show j < L.length from by omega))).ext xr
      have ok2 := (hPL.2 _ (List.getElem_mem hlt)).ext xr
      obtain ⟨q0, q1, q2, q3, q4, q5, q6, q7, q8⟩ := hLL j (by omega)
      obtain ⟨r0, r1, r2, r3, r4, r5, r6, r7, r8⟩ := hLL (j + 1) hlt
      have hneg : cmpK (L[j]).k (L[j + 1]).k < 0 := by
        have := Ris.next hris.out j (by simpa using hlt)
        simpa [cmpY, PtD.y] using this
      generalize L[j] = p at *
      generalize L[j + 1] = q at *
      have CP := fun W (x : Ext wr W) => rcmpD_any p q W (ok1.ext x) (ok2.ext x)
      obtain ⟨cv, hcv⟩ : ∃ cv, cmpK p.k q.k = cv := ⟨_, rfl⟩
      rw [hcv] at CP hneg
      unfold PtD.v ptV at CP
      have i0 : ¬ cv ≥ 0 := by omega
      have i1 : IntKind.i64.wrap (j : Int) = (j : Int) := IntWalk.i64_in _ (by omega)
      have i2 : (j : Int) + 1 < (L.length : Int) := by omega
      have i3 : (0 : Int) ≤ (j : Int) + 1 := by omega
      have i4 : (j : Int) < (L.length : Int) := by omega
      replace q0 := (Ext.cell xr hrb).trans q0
      replace q1 := (Ext.cell xr hrb).trans q1
      replace q2 := (Ext.cell xr hrb).trans q2
      replace q3 := (Ext.cell xr hrb).trans q3
      replace q4 := (Ext.cell xr hrb).trans q4
      replace q5 := (Ext.cell xr hrb).trans q5
      replace q6 := (Ext.cell xr hrb).trans q6
      replace q7 := (Ext.cell xr hrb).trans q7
      replace q8 := (Ext.cell xr hrb).trans q8
      replace r0 := (Ext.cell xr hrb).trans r0
      replace r1 := (Ext.cell xr hrb).trans r1
      replace r2 := (Ext.cell xr hrb).trans r2
      replace r3 := (Ext.cell xr hrb).trans r3
      replace r4 := (Ext.cell xr hrb).trans r4
      replace r5 := (Ext.cell xr hrb).trans r5
      replace r6 := (Ext.cell xr hrb).trans r6
      replace r7 := (Ext.cell xr hrb).trans r7
      replace r8 := (Ext.cell xr hrb).trans r8
      clear hPL hLL ok1 ok2 hcv hneg hris gA hL12
      go_wp2_with fail
      refine wp_region_held_drew (S := Ext wr) (by kernel_rfl) ((Ext.refl wr).drew) (fun hHeld => ?_)
      refine wpAnyH_take (i := 0) (oi := ?oim439) (v := ?vm439) ?him439 (by kernel_rfl) (by kernel_rfl) (by kernel_rfl) ?hQm439 (Or.inl ⟨?hwm439, ?hym439⟩) hHeld ?restm439
      case him439 => simp only [List.getElem?_toArray, List.getElem?_cons_zero]; rfl
      case hQm439 => exact fun _ _ _ h => h
      case hwm439 => rfl
      case hym439 => (intro w9 hSw; replace d4 := (Ext.cell hSw hAA).trans d4; go_simp; (try with_reducible rfl))
      case restm439 =>
      try simp only [Act.put, List.setIfInBounds_toArray, List.set_cons_zero, List.set_cons_succ]
      refine wpAnyH_take (i := 1) (oi := ?oim440) (v := ?vm440) ?him440 (by kernel_rfl) (by kernel_rfl) (by kernel_rfl) ?hQm440 (Or.inl ⟨?hwm440, ?hym440⟩) hHeld ?restm440
      case him440 => simp only [List.getElem?_toArray, List.getElem?_cons_succ, List.getElem?_cons_zero]; rfl
      case hQm440 => exact fun _ _ _ h => h
      case hwm440 => rfl
      case hym440 => (intro w9 hSw; replace d4 := (Ext.cell hSw hAA).trans d4; go_simp; (try with_reducible rfl))
      case restm440 =>
      try simp only [Act.put, List.setIfInBounds_toArray, List.set_cons_zero, List.set_cons_succ]
      refine wpAnyH_take (i := 2) (oi := ?oim441) (v := ?vm441) ?him441 (by kernel_rfl) (by kernel_rfl) (by kernel_rfl) ?hQm441 (Or.inl ⟨?hwm441, ?hym441⟩) hHeld ?restm441
      case him441 => simp only [List.getElem?_toArray, List.getElem?_cons_succ, List.getElem?_cons_zero]; rfl
      case hQm441 => exact fun _ _ _ h => h
      case hwm441 => rfl
      case hym441 => (intro w9 hSw; replace d4 := (Ext.cell hSw hAA).trans d4; go_simp; (try with_reducible rfl))
      case restm441 =>
      try simp only [Act.put, List.setIfInBounds_toArray, List.set_cons_zero, List.set_cons_succ]
      refine wpAnyH_take (i := 3) (oi := ?oim442) (v := ?vm442) ?him442 (by kernel_rfl) (by kernel_rfl) (by kernel_rfl) ?hQm442 (Or.inl ⟨?hwm442, ?hym442⟩) hHeld ?restm442
      case him442 => simp only [List.getElem?_toArray, List.getElem?_cons_succ, List.getElem?_cons_zero]; rfl
      case hQm442 => exact fun _ _ _ h => h
      case hwm442 => rfl
      case hym442 => (intro w9 hSw; replace d4 := (Ext.cell hSw hAA).trans d4; go_simp; (try with_reducible rfl))
      case restm442 =>
      try simp only [Act.put, List.setIfInBounds_toArray, List.set_cons_zero, List.set_cons_succ]
      refine wpAnyH_take (i := 4) (oi := ?oim443) (v := ?vm443) ?him443 (by kernel_rfl) (by kernel_rfl) (by kernel_rfl) ?hQm443 (Or.inl ⟨?hwm443, ?hym443⟩) hHeld ?restm443
      case him443 => simp only [List.getElem?_toArray, List.getElem?_cons_succ, List.getElem?_cons_zero]; rfl
      case hQm443 => exact fun _ _ _ h => h
      case hwm443 => rfl
      case hym443 => (intro w9 hSw; replace d4 := (Ext.cell hSw hAA).trans d4; go_simp; (try with_reducible rfl))
      case restm443 =>
      try simp only [Act.put, List.setIfInBounds_toArray, List.set_cons_zero, List.set_cons_succ]
      refine wpAnyH_take (i := 5) (oi := ?oim444) (v := ?vm444) ?him444 (by kernel_rfl) (by kernel_rfl) (by kernel_rfl) ?hQm444 (Or.inl ⟨?hwm444, ?hym444⟩) hHeld ?restm444
      case him444 => simp only [List.getElem?_toArray, List.getElem?_cons_succ, List.getElem?_cons_zero]; rfl
      case hQm444 => exact fun _ _ _ h => h
      case hwm444 => rfl
      case hym444 => (intro w9 hSw; replace q0 := (Ext.cell hSw hrr).trans q0; replace r0 := (Ext.cell hSw hrr).trans r0; replace q1 := (Ext.cell hSw hrr).trans q1; replace r1 := (Ext.cell hSw hrr).trans r1; replace q2 := (Ext.cell hSw hrr).trans q2; replace r2 := (Ext.cell hSw hrr).trans r2; replace q3 := (Ext.cell hSw hrr).trans q3; replace r3 := (Ext.cell hSw hrr).trans r3; replace q4 := (Ext.cell hSw hrr).trans q4; replace r4 := (Ext.cell hSw hrr).trans r4; replace q5 := (Ext.cell hSw hrr).trans q5; replace r5 := (Ext.cell hSw hrr).trans r5; replace q6 := (Ext.cell hSw hrr).trans q6; replace r6 := (Ext.cell hSw hrr).trans r6; replace q7 := (Ext.cell hSw hrr).trans q7; replace r7 := (Ext.cell hSw hrr).trans r7; replace q8 := (Ext.cell hSw hrr).trans q8; replace r8 := (Ext.cell hSw hrr).trans r8; go_simp; (try with_reducible rfl))
      case restm444 =>
      try simp only [Act.put, List.setIfInBounds_toArray, List.set_cons_zero, List.set_cons_succ]
      refine wpAnyH_take (i := 6) (oi := ?oim445) (v := ?vm445) ?him445 (by kernel_rfl) (by kernel_rfl) (by kernel_rfl) ?hQm445 (Or.inl ⟨?hwm445, ?hym445⟩) hHeld ?restm445
      case him445 => simp only [List.getElem?_toArray, List.getElem?_cons_succ, List.getElem?_cons_zero]; rfl
      case hQm445 => exact fun _ _ _ h => h
      case hwm445 => rfl
      case hym445 => (intro w9 hSw; replace d4 := (Ext.cell hSw hAA).trans d4; go_simp; (try with_reducible rfl))
      case restm445 =>
      try simp only [Act.put, List.setIfInBounds_toArray, List.set_cons_zero, List.set_cons_succ]
      refine wpAnyH_take (i := 7) (oi := ?oim446) (v := ?vm446) ?him446 (by kernel_rfl) (by kernel_rfl) (by kernel_rfl) ?hQm446 (Or.inl ⟨?hwm446, ?hym446⟩) hHeld ?restm446
      case him446 => simp only [List.getElem?_toArray, List.getElem?_cons_succ, List.getElem?_cons_zero]; rfl
      case hQm446 => exact fun _ _ _ h => h
      case hwm446 => rfl
      case hym446 => (intro w9 hSw; replace d4 := (Ext.cell hSw hAA).trans d4; go_simp; (try with_reducible rfl))
      case restm446 =>
      try simp only [Act.put, List.setIfInBounds_toArray, List.set_cons_zero, List.set_cons_succ]
      refine wpAnyH_take (i := 8) (oi := ?oim447) (v := ?vm447) ?him447 (by kernel_rfl) (by kernel_rfl) (by kernel_rfl) ?hQm447 (Or.inl ⟨?hwm447, ?hym447⟩) hHeld ?restm447
      case him447 => simp only [List.getElem?_toArray, List.getElem?_cons_succ, List.getElem?_cons_zero]; rfl
      case hQm447 => exact fun _ _ _ h => h
      case hwm447 => rfl
      case hym447 => (intro w9 hSw; replace d4 := (Ext.cell hSw hAA).trans d4; go_simp; (try with_reducible rfl))
      case restm447 =>
      try simp only [Act.put, List.setIfInBounds_toArray, List.set_cons_zero, List.set_cons_succ]
      refine wpAnyH_take (i := 9) (oi := ?oim448) (v := ?vm448) ?him448 (by kernel_rfl) (by kernel_rfl) (by kernel_rfl) ?hQm448 (Or.inl ⟨?hwm448, ?hym448⟩) hHeld ?restm448
      case him448 => simp only [List.getElem?_toArray, List.getElem?_cons_succ, List.getElem?_cons_zero]; rfl
      case hQm448 => exact fun _ _ _ h => h
      case hwm448 => rfl
      case hym448 => (intro w9 hSw; replace d4 := (Ext.cell hSw hAA).trans d4; go_simp; (try with_reducible rfl))
      case restm448 =>
      try simp only [Act.put, List.setIfInBounds_toArray, List.set_cons_zero, List.set_cons_succ]
      refine wpAnyH_take (i := 10) (oi := ?oim449) (v := ?vm449) ?him449 (by kernel_rfl) (by kernel_rfl) (by kernel_rfl) ?hQm449 (Or.inl ⟨?hwm449, ?hym449⟩) hHeld ?restm449
      case him449 => simp only [List.getElem?_toArray, List.getElem?_cons_succ, List.getElem?_cons_zero]; rfl
      case hQm449 => exact fun _ _ _ h => h
      case hwm449 => rfl
      case hym449 => (intro w9 hSw; replace q0 := (Ext.cell hSw hrr).trans q0; replace r0 := (Ext.cell hSw hrr).trans r0; replace q1 := (Ext.cell hSw hrr).trans q1; replace r1 := (Ext.cell hSw hrr).trans r1; replace q2 := (Ext.cell hSw hrr).trans q2; replace r2 := (Ext.cell hSw hrr).trans r2; replace q3 := (Ext.cell hSw hrr).trans q3; replace r3 := (Ext.cell hSw hrr).trans r3; replace q4 := (Ext.cell hSw hrr).trans q4; replace r4 := (Ext.cell hSw hrr).trans r4; replace q5 := (Ext.cell hSw hrr).trans q5; replace r5 := (Ext.cell hSw hrr).trans r5; replace q6 := (Ext.cell hSw hrr).trans q6; replace r6 := (Ext.cell hSw hrr).trans r6; replace q7 := (Ext.cell hSw hrr).trans q7; replace r7 := (Ext.cell hSw hrr).trans r7; replace q8 := (Ext.cell hSw hrr).trans q8; replace r8 := (Ext.cell hSw hrr).trans r8; go_simp; (try with_reducible rfl))
      case restm449 =>
      try simp only [Act.put, List.setIfInBounds_toArray, List.set_cons_zero, List.set_cons_succ]
      refine wpAnyH_ready (rs := [11]) (by kernel_rfl) (by simp) (AllReadyH.cons (o := ?om450) ?im450 (fun K hK => ?_) AllReadyH.nil)
      case im450 => simp only [List.getElem?_toArray, List.getElem?_cons_succ, List.getElem?_cons_zero]; rfl
      rw [if_pos (by rfl)]
      go_simp
      go_at_call 12
      (with_reducible refine (CP _ hHeld).mono ?_)
      rintro e wz ⟨rfl, xz⟩
      refine hK.out _ _ (hHeld.trans xz) (fun hHeld => ?_)
      clear hK K
      try simp only [List.setIfInBounds_toArray, List.set_cons_zero, List.set_cons_succ]
      refine wpAnyH_take (i := 12) (oi := ?oim451) (v := ?vm451) ?him451 (by kernel_rfl) (by kernel_rfl) (by kernel_rfl) ?hQm451 (Or.inl ⟨?hwm451, ?hym451⟩) hHeld ?restm451
      case him451 => simp only [List.getElem?_toArray, List.getElem?_cons_succ, List.getElem?_cons_zero]; rfl
      case hQm451 => exact fun _ _ _ h => h
      case hwm451 => rfl
      case hym451 => (intro w9 hSw; skip; go_simp; (try with_reducible rfl))
      case restm451 =>
      try simp only [Act.put, List.setIfInBounds_toArray, List.set_cons_zero, List.set_cons_succ]
      refine wpAnyH_done (by kernel_rfl) ?_ _
      go_wp2_with fail
      go_roundw
      case rel => exact ⟨j + 1, by first | rfl | (congr 1), hlt, xr.trans hHeld⟩
      case measure => simp only [intOf]; omega
    · have i2 : ¬ (j : Int) + 1 < (L.length : Int) := by omega
      replace hPL := hPL.ext xr
      replace z1 := z1.trans xr
      have SO := fun W (x : Ext wr W) => famSort_any n3 k3 u3 h3 a2 cA L W (by omega) hL12 (hPL.ext x)
      clear hL12
      go_wp2_with fail
      (with_reducible refine (SO _ (Ext.refl _)).mono ?_)
      rintro e w6 ⟨hs, y6⟩
      obtain ⟨a6, c6, L6, hL6, rfl, hP6, _⟩ := hs.good _ (List.Perm.refl _) hris.out
      have hlen6 : L6.length = L.length := by have := congrArg List.length hL6; simpa using this
      replace hPL := hPL.ext y6
      replace gA := gA.ext y6
      replace z1 := z1.trans y6
      have SM := fun W (x : Ext w6 W) => famSame_any n3 k3 u3 h3 a2 cA L n3 k3 u3 h3 a6 c6 L6 W (by omega) (by omega) (hPL.ext x) (hP6.ext x)
      rw [hL6, sameYs_refl, show headB n3 k3 u3 h3 n3 k3 u3 h3 = true from by simp [headB]] at SM
      clear SO hs d0 d1 d2 d3 d4 hlen6 hL6 hris hP6 hPL
      have xa := (Ext.refl w6).alloc (.cells #[.string n3, .int .i64 k3, .string u3, .string h3, .slice a6 L6.length c6] 26)
      have gC : FamIn w6.heap.size n3 k3 u3 h3 (.slice a6 L6.length c6) (w6.alloc (.cells #[.string n3, .int .i64 k3, .string u3, .string h3, .slice a6 L6.length c6] 26)) := heap_last _ _
      obtain ⟨d0, d1, d2, d3, d4⟩ := (gA.ext xa).cells
      obtain ⟨e0, e1, e2, e3, e4⟩ := gC.cells
      clear gA gC
      go_wp2_with fail
      (with_reducible refine (SM _ xa).mono ?_)
      rintro e w7 ⟨rfl, y7⟩
      go_wp2_with fail
      go_ret
      exact ⟨rfl, (z1.trans xa).trans y7⟩
end Go.Proofs.Ytjjnmefihdjglaa
