/- The law BatchLimits: plain: the names, the points, what they make. -/
import Derived.Test.YtjjnmefihdjglaaBatE
import Derived.Test.YtjjnmefihdjglaaPtRows
set_option linter.all false
namespace Go.Proofs.Ytjjnmefihdjglaa
open Go.RowKit

/-- The name of the j-th family. -/
def nmL (j : Nat) : ByteArray := ⟨#[102, UInt8.ofNat (48 + j)]⟩
theorem nmL_is : ∀ k : Nat, k < 34 → (⟨#[102]⟩ : ByteArray) ++ strOfNums [48 + (k : Int)] = nmL k := by decide +kernel
/-- The j-th family, without points. -/
def fdL (j : Nat) : FamD := ⟨nmL j, 0, ⟨#[]⟩, ⟨#[]⟩, none, 0, []⟩
/-- A point at a time. -/
def ptL (t : Nat) : PtD := ⟨none, 0, [], 0, false, 0, 0, 0, 0, true, t⟩
/-- The times of the j-th family's points, of i in all. -/
def tmL (n j i : Nat) : List Nat := (List.range i).filter (fun t => t % n = j)
theorem tmL_zero (n j : Nat) : tmL n j 0 = [] := rfl
theorem tmL_hit (n i : Nat) : tmL n (i % n) (i + 1) = tmL n (i % n) i ++ [i] := by
  unfold tmL; rw [List.range_succ, List.filter_append]; simp
theorem tmL_miss (n j i : Nat) (h : j ≠ i % n) : tmL n j (i + 1) = tmL n j i := by
  unfold tmL; rw [List.range_succ, List.filter_append]; simp; omega
theorem tmL_lt {n j i t : Nat} (h : t ∈ tmL n j i) : t < i := by
  unfold tmL at h; exact List.mem_range.1 (List.mem_filter.1 h).1
theorem tmL_len_le (n j i : Nat) : (tmL n j i).length ≤ i := by
  unfold tmL; have := List.length_filter_le (fun t => decide (t % n = j)) (List.range i); rwa [List.length_range] at this
def famL (n m j : Nat) : FamY := ⟨nmL j, 0, ⟨#[]⟩, ⟨#[]⟩, (tmL n j m).map (fun t => (ptL t).y)⟩
def famsL (n m : Nat) : List FamY := (List.range n).map (famL n m)
theorem nmL_good : ∀ j, j < 34 → nameB (nmL j) = true := by decide +kernel
theorem nmL_lt : ∀ i, i < 34 → ∀ j, j < 34 → i < j → cmpS (nmL i) (nmL j) < 0 := by decide +kernel
theorem ptL_good : ∀ t, t < 124 → goodY 0 (ptL t).y = true := by decide +kernel
theorem ptL_lt (s t : Nat) (h : s < t) : cmpY (ptL s).y (ptL t).y < 0 := by
  unfold cmpY cmpK PtD.y PtD.k ptL cmpP
  dsimp only
  simp [orL, lex2, cmpLs, cmpL, cmpB, cmpI, cmpD]
  omega
theorem tmL_pair (n j i : Nat) : (tmL n j i).Pairwise (· < ·) := by
  unfold tmL; exact List.Pairwise.filter _ List.pairwise_lt_range
theorem famL_good (n m j : Nat) (hj : j < 34) (hm : m ≤ 124) : goodF (famL n m j) = true := by
  unfold goodF goodFamY famL
  dsimp only
  have h1 : nameB (nmL j) = true := nmL_good j hj
  have h2 : valueB ⟨#[]⟩ = true := by decide +kernel
  rw [h1, h2]
  have h3 : ((tmL n j m).map (fun t => (ptL t).y)).all (goodY 0) = true := by
    rw [List.all_eq_true]
    intro y hy
    obtain ⟨t, ht, rfl⟩ := List.mem_map.1 hy
    exact ptL_good t (by have := tmL_lt ht; omega)
  have h4 : risesK (((tmL n j m).map (fun t => (ptL t).y)).map (fun y => y.1)) = true := by
    rw [List.map_map]
    have := (risesK_y ((tmL n j m).map ptL)).2 (by
      unfold Ris
      rw [List.pairwise_map, List.pairwise_map]
      exact (tmL_pair n j m).imp (fun {a b} h => ptL_lt a b h))
    rw [List.map_map] at this
    exact this
  rw [h3, h4]
  rfl
theorem famsL_rises (n m : Nat) (hn : n ≤ 34) : risesN ((famsL n m).map FamY.nm) = true := by
  rw [risesN_iff]
  unfold famsL Ris
  rw [List.map_map, List.pairwise_map]
  refine (List.pairwise_lt_range (n := n)).imp_of_mem (fun {a b} ha hb hab => ?_)
  exact nmL_lt a (by have := List.mem_range.1 ha; omega) b (by have := List.mem_range.1 hb; omega) hab
theorem ptsN_map_range (f : Nat → FamY) : ∀ n, ptsN ((List.range n).map f) = ((List.range n).map (fun j => (f j).ps.length)).sum
  | 0 => rfl
  | n + 1 => by rw [List.range_succ, List.map_append, ptsN_append, ptsN_map_range f n, List.map_append, List.sum_append]; simp [ptsN]
theorem sum_one (n j0 : Nat) (f g : Nat → Nat) (h0 : j0 < n) (h1 : g j0 = f j0 + 1) (h2 : ∀ j, j ≠ j0 → g j = f j) : ((List.range n).map g).sum = ((List.range n).map f).sum + 1 := by
  induction n with
  | zero => omega
  | succ n ih =>
    rw [List.range_succ, List.map_append, List.map_append, List.sum_append, List.sum_append]
    by_cases q : j0 = n
    · subst q
      have e : (List.range j0).map g = (List.range j0).map f := List.map_congr_left (fun j hj => h2 j (by have := List.mem_range.1 hj; omega))
      rw [e]
      simp [h1]
      omega
    · rw [ih (by omega)]
      simp [h2 n (by omega)]
      omega
theorem sum_zeros : ∀ n : Nat, ((List.range n).map (fun _ => 0)).sum = 0
  | 0 => rfl
  | n + 1 => by rw [List.range_succ, List.map_append, List.sum_append, sum_zeros n]; rfl
theorem famsL_pts (n : Nat) (hn : 0 < n) : ∀ m, ptsN (famsL n m) = m
  | 0 => by
    unfold famsL
    rw [ptsN_map_range]
    have : (List.range n).map (fun j => (famL n 0 j).ps.length) = (List.range n).map (fun _ => 0) := List.map_congr_left (fun j _ => by simp [famL, tmL_zero])
    rw [this]
    exact sum_zeros n
  | m + 1 => by
    have ih := famsL_pts n hn m
    unfold famsL at ih ⊢
    rw [ptsN_map_range] at ih ⊢
    rw [sum_one n (m % n) (fun j => (famL n m j).ps.length) (fun j => (famL n (m + 1) j).ps.length) (Nat.mod_lt _ hn) (by simp [famL, tmL_hit]) (fun j hj => by simp [famL, tmL_miss n j m hj]), ih]
theorem famsL_sm (n m : Nat) (hm : m ≤ 124) : ∀ f ∈ famsL n m, f.Sm := by
  intro f hf
  obtain ⟨j, _, rfl⟩ := List.mem_map.1 hf
  refine ⟨by show (2 : Nat) ≤ 1000; decide, by show (0 : Nat) ≤ 1000; decide, by show (0 : Nat) ≤ 1000; decide, ?_, fun q hq => ?_⟩
  · show ((tmL n j m).map _).length ≤ 1000
    rw [List.length_map]
    have := tmL_len_le n j m
    omega
  · obtain ⟨t, _, rfl⟩ := List.mem_map.1 hq
    show (0 : Nat) ≤ 1000
    decide
theorem famsL_check (n m : Nat) (hn : n < 34) (hn0 : 0 < n) (hm : m < 124) : checkB ⟨#[116]⟩ (famsL n m) = if n ≤ 30 ∧ m ≤ 120 then 0 else 14 := by
  have h1 : (famsL n m).all goodF = true := by
    rw [List.all_eq_true]
    intro f hf
    obtain ⟨j, hj, rfl⟩ := List.mem_map.1 hf
    exact famL_good n m j (by have := List.mem_range.1 hj; omega) (by omega)
  unfold checkB
  rw [if_pos ⟨by decide +kernel, h1, famsL_rises n m (by omega)⟩, famsL_pts n hn0 m]
  simp [famsL]

/-- The families of the second loop: their row, in block g; their points, each in a block of its own. -/
structure LimI (TB g n i : Nat) (d : Nat → FamD) (w : World) : Prop where
  row : RowE 5 26 FamD.cs g n d w
  lt : TB < g
  is : ∀ j, j < n → (d j).nm = nmL j ∧ (d j).k = 0 ∧ (d j).un = ⟨#[]⟩ ∧ (d j).he = ⟨#[]⟩ ∧ (d j).ps = (tmL n j i).map ptL
  own : ∀ j, j < n → OwnR 9 35 PtD.cs (TB + 1) (.slice (d j).pa (d j).ps.length (d j).pc) (d j).ps.length (fun x => (d j).ps[x]?.getD PtD.zero) w
  ne : ∀ j, j < n → ∀ b, (Value.slice (d j).pa (d j).ps.length (d j).pc).ownBlock = some b → b ≠ g
  two : ∀ j, j < n → ∀ k, k < n → j ≠ k → ∀ b, (Value.slice (d j).pa (d j).ps.length (d j).pc).ownBlock = some b → (Value.slice (d k).pa (d k).ps.length (d k).pc).ownBlock ≠ some b
theorem LimI.start {TB g n : Nat} {L : List FamD} {w : World} (hL : L = (List.range n).map fdL) (h : RowE 5 26 FamD.cs g n (fun i => L[i]?.getD FamD.zero) w) (hg : TB < g) : LimI TB g n 0 fdL w := by
  refine ⟨h.congr (fun i hi => ?_), hg, fun j _ => ⟨rfl, rfl, rfl, rfl, rfl⟩, fun j _ => OwnR.nil _ _ _, (fun j _ b hb => by cases hb), (fun j _ k _ _ b hb => by cases hb)⟩
  subst hL
  simp [hi]
theorem LimI.ext {TB g n i : Nat} {d : Nat → FamD} {w w' : World} (h : LimI TB g n i d w) (x : Ext w w') : LimI TB g n i d w' :=
  ⟨h.row.ext x, h.lt, h.is, fun j hj => (h.own j hj).ext x, h.ne, h.two⟩
/-- The j-th family's points with one more, in the row v'. -/
theorem LimI.next {TB g n i q : Nat} {d : Nat → FamD} {w w' : World} {a : Option Addr} {c : Nat} (h : LimI TB g n i d w) (hn : 0 < n) (hq : i % n = q)
    (h1 : OwnR 9 35 PtD.cs (TB + 1) (.slice a ((d (q)).ps.length + 1) c) ((d (q)).ps.length + 1) (joinF (d (q)).ps.length (fun x => (d (q)).ps[x]?.getD PtD.zero) (fun _ => ptL i)) w')
    (h2 : w.grownBy w' (Value.slice (d (q)).pa (d (q)).ps.length (d (q)).pc).ownBlock) (h3 : (Value.slice a ((d (q)).ps.length + 1) c).ownBlock = (Value.slice (d (q)).pa (d (q)).ps.length (d (q)).pc).ownBlock ∨ (Value.slice a ((d (q)).ps.length + 1) c).ownBlock = some w.heap.size) :
    LimI TB g n (i + 1) (fun j => if j = q then { d (q) with pa := a, pc := c, ps := (d (q)).ps ++ [ptL i] } else d j) (w'.setCell ⟨g, q * 5 + 4, none⟩ (.slice a ((d (q)).ps.length + 1) c)) := by
  have hj : q < n := by rw [← hq]; exact Nat.mod_lt _ hn
  have hgl := h.row.lt
  have hgk : w'.heap[g]? = w.heap[g]? := h2.block g hgl (fun e => h.ne q hj g e.symm rfl)
  have hlen : ((d q).ps ++ [ptL i]).length = (d q).ps.length + 1 := by simp
  have hng : ∀ b, (Value.slice a ((d q).ps.length + 1) c).ownBlock = some b → b ≠ g := fun b hb e => by
    rcases h3 with h3 | h3
    · rw [h3] at hb; exact h.ne q hj b hb e
    · rw [h3] at hb; injection hb with hb; omega
  have stand : ∀ b, b ≠ g → (w'.setCell ⟨g, q * 5 + 4, none⟩ (.slice a ((d q).ps.length + 1) c)).heap[b]? = w'.heap[b]? := fun b hb => by
    unfold World.setCell
    simp only [Array.getElem?_modify]
    rw [if_neg (fun e => hb e.symm)]
  refine ⟨?_, h.lt, fun j hj2 => ?_, fun j hj2 => ?_, fun j hj2 b hb => ?_, fun j hj2 k hk2 hne b hb => ?_⟩
  · refine RowE.set1 (cs := FamD.cs) (fun _ => rfl) (h.row.keep hgk) q 4 _ hj (by decide) ?_ (fun x hx => by rw [if_neg hx])
    rw [if_pos rfl]
    unfold FamD.cs
    simp [hlen]
  · by_cases e : j = q
    · subst e
      obtain ⟨k0, k1, k2, k3, k4⟩ := h.is j hj2
      rw [if_pos rfl]
      refine ⟨k0, k1, k2, k3, ?_⟩
      show (d j).ps ++ [ptL i] = _
      rw [k4]
      have := tmL_hit n i
      rw [hq] at this
      rw [this, List.map_append]
      rfl
    · rw [if_neg e]
      obtain ⟨k0, k1, k2, k3, k4⟩ := h.is j hj2
      exact ⟨k0, k1, k2, k3, by rw [k4, tmL_miss n j i (by rw [hq]; exact e)]⟩
  · by_cases e : j = q
    · subst e
      rw [if_pos rfl]
      dsimp only
      rw [hlen]
      refine (h1.congr (fun x hx => ?_)).keep (fun b hb => stand b (hng b hb))
      unfold joinF
      by_cases e2 : x < (d j).ps.length
      · rw [if_pos e2, List.getElem?_append_left e2]
      · rw [if_neg e2]
        obtain rfl : x = (d j).ps.length := by omega
        simp
    · rw [if_neg e]
      refine (h.own j hj2).keep (fun b hb => ?_)
      rw [stand b (h.ne j hj2 b hb)]
      exact h2.block b ((h.own j hj2).lt b hb).2 (fun e2 => h.two j hj2 q hj e b hb e2.symm)
  · by_cases e : j = q
    · subst e
      rw [if_pos rfl] at hb
      dsimp only at hb
      rw [hlen] at hb
      exact hng b hb
    · rw [if_neg e] at hb
      exact h.ne j hj2 b hb
  · by_cases e : j = q
    · subst e
      rw [if_pos rfl] at hb
      rw [if_neg (fun e => hne e.symm)]
      dsimp only at hb
      rw [hlen] at hb
      rcases h3 with h3 | h3
      · rw [h3] at hb; exact h.two j hj2 k hk2 hne b hb
      · rw [h3] at hb
        injection hb with hb
        intro hb2
        have := ((h.own k hk2).lt b hb2).2
        omega
    · rw [if_neg e] at hb
      by_cases e2 : k = q
      · subst e2
        rw [if_pos rfl]
        dsimp only
        rw [hlen]
        intro hb2
        rcases h3 with h3 | h3
        · rw [h3] at hb2; exact h.two j hj2 k hk2 hne b hb hb2
        · rw [h3] at hb2
          injection hb2 with hb2
          have := ((h.own j hj2).lt b hb).2
          omega
      · rw [if_neg e2]
        exact h.two j hj2 k hk2 hne b hb
/-- A row of structs in a block of its own, as a row of families. -/
theorem RowE.fams {g n : Nat} {d : Nat → FamD} {w : World} (h : RowE 5 26 FamD.cs g n d w) (hp : ∀ j, j < n → PtsA (d j).pa (d j).ps w) : FamsA (some ⟨g, 0, none⟩) ((List.range n).map d) w := by
  refine ⟨fun h0 => ⟨g, 0, rfl, h.lt, fun i hi => ?_⟩, fun f hf => ?_⟩
  · have hi' : i < n := by simpa using hi
    have e : ((List.range n).map d)[i] = d i := by simp
    rw [e, Nat.zero_add]
    have C := fun j v hj hv => h.cell i j v hi' hj hv
    exact ⟨C 0 _ (by decide) rfl, C 1 _ (by decide) rfl, C 2 _ (by decide) rfl, C 3 _ (by decide) rfl, C 4 _ (by decide) rfl⟩
  · obtain ⟨j, hj, rfl⟩ := List.mem_map.1 hf
    exact hp j (List.mem_range.1 hj)
theorem ptL_ok (t : Nat) (ht : t < 1000) (w : World) : (ptL t).Ok w := ⟨by simp [ptL], LabA.nil _ _, by intro x hx; simp [ptL] at hx, by simp [ptL, I64], by simp [ptL, I64]⟩
theorem LimI.pts {TB g n i : Nat} {d : Nat → FamD} {w : World} (h : LimI TB g n i d w) (hi : i < 1000) (j : Nat) (hj : j < n) : PtsA (d j).pa (d j).ps w := by
  obtain ⟨a, c, e, hP⟩ := (h.own j hj).ptsA rfl (fun p hp => by
    rw [(h.is j hj).2.2.2.2] at hp
    obtain ⟨t, ht, rfl⟩ := List.mem_map.1 hp
    exact ptL_ok t (by have := tmL_lt ht; omega) w)
  injection e with e _ _
  rw [e]
  exact hP
theorem LimI.y {TB g n i : Nat} {d : Nat → FamD} {w : World} (h : LimI TB g n i d w) (j : Nat) (hj : j < n) : (d j).y = famL n i j := by
  obtain ⟨k0, k1, k2, k3, k4⟩ := h.is j hj
  unfold FamD.y famL
  rw [k0, k1, k2, k3, k4, List.map_map]
  rfl
theorem LimI.ys {TB g n i : Nat} {d : Nat → FamD} {w : World} (h : LimI TB g n i d w) : ((List.range n).map d).map FamD.y = famsL n i := by
  unfold famsL
  rw [List.map_map]
  exact List.map_congr_left (fun j hj => h.y j (List.mem_range.1 hj))
/-- The last family's name turned into the first one's. -/
def famsS (n m : Nat) : List FamY := (List.range n).map (fun j => if j = n - 1 then { famL n m j with nm := nmL 0 } else famL n m j)
theorem nmL_no : ∀ j, j < 34 → ¬ cmpS (nmL j) (nmL 0) < 0 := by decide +kernel
theorem famsS_check (n m : Nat) (hn : n < 34) (hn2 : 1 < n) : checkB ⟨#[116]⟩ (famsS n m) = 19 := by
  unfold checkB
  rw [if_neg]
  rintro ⟨_, _, h⟩
  rw [risesN_iff] at h
  unfold Ris famsS at h
  rw [List.map_map] at h
  have := List.pairwise_iff_getElem.1 h (n - 2) (n - 1) (by simp; omega) (by simp; omega) (by omega)
  simp only [List.getElem_map, List.getElem_range, Function.comp] at this
  rw [if_neg (by omega), if_pos trivial] at this
  exact nmL_no (n - 2) (by omega) this
theorem famsS_pts (n m : Nat) (hn : 0 < n) : ptsN (famsS n m) = m := by
  have h := famsL_pts n hn m
  unfold famsL at h
  unfold famsS
  rw [ptsN_map_range] at h ⊢
  refine Eq.trans ?_ h
  congr 1
  refine List.map_congr_left (fun j _ => ?_)
  by_cases e : j = n - 1
  · rw [if_pos e]
  · rw [if_neg e]
theorem famsS_sm (n m : Nat) (hm : m ≤ 124) : ∀ f ∈ famsS n m, f.Sm := by
  intro f hf
  obtain ⟨j, hj, rfl⟩ := List.mem_map.1 hf
  have := famsL_sm n m hm (famL n m j) (List.mem_map_of_mem hj)
  by_cases e : j = n - 1
  · rw [if_pos e]
    exact ⟨by show (2 : Nat) ≤ 1000; decide, this.u, this.h, this.p, this.l⟩
  · rw [if_neg e]; exact this
/-- The last family's name set. -/
theorem LimI.spoil {TB g n i : Nat} {d : Nat → FamD} {w : World} (h : LimI TB g n i d w) (hn : 1 < n) (hi : i < 1000) :
    ∃ d', RowE 5 26 FamD.cs g n d' (w.setCell ⟨g, (n - 1) * 5, none⟩ (.string ⟨#[102, 48]⟩)) ∧ (∀ j, j < n → PtsA (d' j).pa (d' j).ps (w.setCell ⟨g, (n - 1) * 5, none⟩ (.string ⟨#[102, 48]⟩))) ∧ ((List.range n).map d').map FamD.y = famsS n i := by
  refine ⟨fun j => if j = n - 1 then { d (n - 1) with nm := ⟨#[102, 48]⟩ } else d j, ?_, fun j hj => ?_, ?_⟩
  · have := RowE.set1 (cs := FamD.cs) (fun _ => rfl) (d' := fun j => if j = n - 1 then { d (n - 1) with nm := ⟨#[102, 48]⟩ } else d j) h.row (n - 1) 0 (.string ⟨#[102, 48]⟩) (by omega) (by decide) (by rw [if_pos rfl]; rfl) (fun x hx => by rw [if_neg hx])
    rw [Nat.add_zero] at this
    exact this
  · have hp := h.pts hi j hj
    have ps : PtsA (d j).pa (d j).ps (w.setCell ⟨g, (n - 1) * 5, none⟩ (.string ⟨#[102, 48]⟩)) := by
      refine hp.sta (sta_setC w g _ _) (fun x hx => ?_) (fun p hp2 x hx => ?_)
      · have ho := h.own j hj
        have e := h.ne j hj
        rcases ho with ⟨e1, _⟩ | ⟨g', cap, e1, _⟩
        · injection e1 with e1; rw [e1] at hx; cases hx
        · injection e1 with e1
          rw [e1] at hx
          injection hx with hx
          subst hx
          exact e g' (by rw [e1]; rfl)
      · rw [(h.is j hj).2.2.2.2] at hp2
        obtain ⟨t, _, rfl⟩ := List.mem_map.1 hp2
        cases hx
    dsimp only
    by_cases e : j = n - 1
    · rw [if_pos e]; subst e; exact ps
    · rw [if_neg e]; exact ps
  · unfold famsS
    rw [List.map_map]
    refine List.map_congr_left (fun j hj => ?_)
    have hy := h.y j (List.mem_range.1 hj)
    show FamD.y (if j = n - 1 then { d (n - 1) with nm := ⟨#[102, 48]⟩ } else d j) = (if j = n - 1 then { famL n i j with nm := nmL 0 } else famL n i j)
    by_cases e : j = n - 1
    · rw [if_pos e, if_pos e, ← hy]
      subst e
      rfl
    · rw [if_neg e, if_neg e, hy]
end Go.Proofs.Ytjjnmefihdjglaa
