/- The law FamilySeries answers true: the walk. -/
import Derived.Test.YtjjnmefihdjglaaFamK
import Derived.Test.YtjjnmefihdjglaaGF
import Derived.Test.YtjjnmefihdjglaaPtG
namespace Go.Proofs.Ytjjnmefihdjglaa
open Go.RowKit

theorem tyStr : TyE 39 9 1 16 := TyE.mk' Try.underlying39 (by kernel_rfl)
def strC (s : ByteArray) : List Value := [.string s]
/-- The series that have been seen ahead of role r. -/
def seenL (nm : ByteArray) (k : Int) (r : Nat) : List ByteArray := ((List.range r).filter (fun i : Nat => decide ((i : Int) ∈ rolesOf k))).map (fun i : Nat => nm ++ tailOf k (i : Int))
theorem seenL_succ (nm : ByteArray) (k : Int) (r : Nat) : seenL nm k (r + 1) = if (r : Int) ∈ rolesOf k then seenL nm k r ++ [nm ++ tailOf k r] else seenL nm k r := by
  unfold seenL
  rw [List.range_succ, List.filter_append, List.map_append]
  by_cases h : (r : Int) ∈ rolesOf k
  · rw [if_pos h]; simp [h]
  · rw [if_neg h]; simp [h]
theorem seenL_len (nm : ByteArray) (k : Int) : (seenL nm k 5).length = (rolesOf k).length := by
  unfold seenL
  rw [List.length_map]
  by_cases h0 : k = 0
  · subst h0; decide
  by_cases h1 : k = 1
  · subst h1; decide
  by_cases h2 : k = 2
  · subst h2; decide
  by_cases h3 : k = 3
  · subst h3; decide
  by_cases h4 : k = 4
  · subst h4; decide
  have : rolesOf k = [] := by unfold rolesOf; simp [h0, h1, h2, h3, h4]
  rw [this]; decide
theorem seenL_le (nm : ByteArray) (k : Int) (r : Nat) : (seenL nm k r).length ≤ r := by
  unfold seenL
  rw [List.length_map]
  have := List.length_filter_le (fun i : Nat => decide ((i : Int) ∈ rolesOf k)) (List.range r)
  rwa [List.length_range] at this
theorem tail_ne (k : Int) : ∀ r : Nat, r < 5 → ∀ i : Nat, i < r → (i : Int) ∈ rolesOf k → (r : Int) ∈ rolesOf k → tailOf k i ≠ tailOf k r := by
  intro r hr i hi h1 h2
  have hk : k = 0 ∨ k = 1 ∨ k = 2 ∨ k = 3 ∨ k = 4 := by
    unfold rolesOf at h1
    repeat' split at h1
    all_goals first | omega | cases h1
  have hr2 : r = 0 ∨ r = 1 ∨ r = 2 ∨ r = 3 ∨ r = 4 := by omega
  have hi2 : i = 0 ∨ i = 1 ∨ i = 2 ∨ i = 3 := by omega
  rcases hk with rfl | rfl | rfl | rfl | rfl <;> rcases hr2 with rfl | rfl | rfl | rfl | rfl <;> rcases hi2 with rfl | rfl | rfl | rfl <;> first | omega | (revert h1 h2; decide)
theorem extract_app (a b : ByteArray) : (a ++ b).extract 0 a.size = a := by
  rw [ByteArray.extract_append_eq_left]
  rfl
theorem app_cancel {a b c : ByteArray} (h : a ++ b = a ++ c) : b = c := by
  have := congrArg (fun x : ByteArray => x.data.toList) h
  simp only [ByteArray.data_append, Array.toList_append, List.append_cancel_left_eq] at this
  cases b; cases c
  simp only [ByteArray.mk.injEq]
  exact Array.toList_inj.1 this

set_option maxHeartbeats 16000000 in
set_option maxRecDepth 100000 in
theorem FamilySeries_of (nm : ByteArray) (kind : Int) (w : World) (hn : nm.size ≤ 9223372036854775807) :
    Calls Try.prog 4 #[.string nm, .int .i64 kind] w fun e w' => e = .returned (.bool true) ∧ Ext w w' := by
  by_cases h100 : 100 < nm.size
  · have h1 : (100 : Int) < (nm.size : Int) := by omega
    go_enter Try.func4, Try.ntmps4
    go_wp2_with fail
    (with_reducible refine (known9_any _).mono ?_)
    rintro e w1 ⟨rfl, x1⟩
    go_wp2_with fail
    go_ret
    exact ⟨rfl, x1⟩
  have h1 : ¬ (100 : Int) < (nm.size : Int) := by omega
  have h1' : decide ((100 : Int) < (nm.size : Int)) = false := decide_eq_false h1
  have SE := fun (r : Int) w => Series_any nm kind ⟨#[]⟩ ⟨#[]⟩ r w (by omega)
  have HR := fun (r : Int) w => rHasRole_any kind r w
  have RO := fun w => rRoles_any _ kind w rfl
  go_enter Try.func4, Try.ntmps4
  go_wp2_with fail
  (with_reducible refine (known9_any _).mono ?_)
  rintro e w1 ⟨rfl, x1⟩
  have g0 : w1.heap.size < (w1.alloc (.cells #[.string nm, .int .i64 kind, .string ⟨#[]⟩, .string ⟨#[]⟩] 23)).heap.size := by simp
  have g1 : (w1.alloc (.cells #[.string nm, .int .i64 kind, .string ⟨#[]⟩, .string ⟨#[]⟩] 23)).heap[w1.heap.size]? = some (.cells #[.string nm, .int .i64 kind, .string ⟨#[]⟩, .string ⟨#[]⟩] 23 (0, 0)) := heap_last _ _
  have x2 := x1.alloc (.cells #[.string nm, .int .i64 kind, .string ⟨#[]⟩, .string ⟨#[]⟩] 23)
  go_wp2_with fail
  obtain ⟨W, hW⟩ : ∃ W, w1.alloc (.cells #[.string nm, .int .i64 kind, .string ⟨#[]⟩, .string ⟨#[]⟩] 23) = W := ⟨_, rfl⟩
  rw [hW] at g0 g1 x2 ⊢
  clear hW
  obtain ⟨B, hB⟩ : ∃ B, w1.heap.size = B := ⟨_, rfl⟩
  rw [hB] at g0 g1 ⊢
  clear hB x1
  go_loopw [6, 7] (fun v r wr => ∃ k : Nat, r = .int .i64 k ∧ k ≤ 5 ∧ OwnR 1 9 strC W.heap.size v (seenL nm kind k).length (fun i => (seenL nm kind k)[i]?.getD ⟨#[]⟩) wr ∧ Ext W wr) (fun _ r _ => 5 - (intOf r).toNat)
  case atStart => exact ⟨0, rfl, by omega, OwnR.nil _ _ _, Ext.refl _⟩
  case round =>
    obtain ⟨k, rfl, hk, hO, xr⟩ := hrel
    obtain ⟨av, cv, hv⟩ := hO.form
    subst hv
    have gr := (xr.heap g0).trans g1
    have c0 : wr.cell? ⟨B, 0, none⟩ = some (.string nm) := by rw [Lib.cell_of_heap gr]; rfl
    have c1 : wr.cell? ⟨B, 1, none⟩ = some (.int .i64 kind) := by rw [Lib.cell_of_heap gr]; rfl
    have c2 : wr.cell? ⟨B, 2, none⟩ = some (.string ⟨#[]⟩) := by rw [Lib.cell_of_heap gr]; rfl
    have c3 : wr.cell? ⟨B, 3, none⟩ = some (.string ⟨#[]⟩) := by rw [Lib.cell_of_heap gr]; rfl
    clear gr
    by_cases h5 : k < 5
    · have hS := seenL_succ nm kind k
      have S1 := SE (k : Int)
      have H1 := HR (k : Int)
      have i5 : (k : Int) ≤ 4 := by omega
      clear SE HR
      by_cases hr : (k : Int) ∈ rolesOf kind
      · rw [if_pos hr] at hS S1
        rw [decide_eq_true hr] at S1 H1
        have hne : ∀ i (hi : i < (seenL nm kind k).length), (seenL nm kind k)[i] ≠ nm ++ tailOf kind k := fun i hi e => by
          have hm := List.getElem_mem hi
          rw [e] at hm
          unfold seenL at hm
          obtain ⟨j, hj, e2⟩ := List.mem_map.1 hm
          obtain ⟨hj1, hj2⟩ := List.mem_filter.1 hj
          exact tail_ne kind k h5 j (List.mem_range.1 hj1) (by simpa using hj2) hr (app_cancel e2)
        have hex := extract_app nm (tailOf kind k)
        have hlen := seenL_le nm kind k
        have hsz : nm.size ≤ (nm ++ tailOf kind k).size := by rw [ByteArray.size_append]; omega
        obtain ⟨L, hL⟩ : ∃ L, seenL nm kind k = L := ⟨_, rfl⟩
        obtain ⟨s, hs⟩ : ∃ s, nm ++ tailOf kind k = s := ⟨_, rfl⟩
        rw [hL, hs] at hS
        rw [hL] at hO hlen ⊢
        rw [hs] at hex hsz S1
        have hne2 : ∀ i (hi : i < L.length), L[i] ≠ s := by subst hL hs; exact hne
        have hsz2 : s.size ≤ 1000 := by
          rw [← hs, ByteArray.size_append]
          have : (tailOf kind k).size ≤ 10 := by unfold tailOf; repeat' split
                                                 all_goals decide
          omega
        have hS' : ∀ v w, OwnR 1 9 strC W.heap.size v (L.length + 1) (joinF L.length (fun i => L[i]?.getD ⟨#[]⟩) (fun _ => s)) w → OwnR 1 9 strC W.heap.size v (seenL nm kind (k + 1)).length (fun i => (seenL nm kind (k + 1))[i]?.getD ⟨#[]⟩) w := by
          intro v w h
          rw [hS, List.length_append, List.length_singleton]
          refine h.congr fun i hi => ?_
          unfold joinF
          by_cases e : i < L.length
          · rw [if_pos e]; simp [e, List.getElem?_append_left]
          · rw [if_neg e]
            obtain rfl : i = L.length := by omega
            simp
        clear hL hs hne hr hS
        have is1 : (nm.size : Int) ≤ (s.size : Int) := by omega
        have is2 : ¬ (s.size : Int) < (nm.size : Int) := by omega
        go_wp2_with fail
        (with_reducible refine (S1 _).mono ?_)
        rintro e w3 ⟨rfl, x3⟩
        go_wp2_with fail
        (with_reducible refine (H1 _).mono ?_)
        rintro e w4 ⟨rfl, x4⟩
        go_wp2_with fail
        have y4 := (xr.trans x3).trans x4
        have hO4 := hO.ext (x3.trans x4)
        clear c0 c1 c2 c3 S1 H1 x3 x4 xr
        go_loopw [10] (fun v wr2 => ∃ i : Nat, v = .int .i64 i ∧ i ≤ L.length ∧ wr2 = w4) (fun v _ => L.length - (intOf v).toNat)
        case atStart => exact ⟨0, rfl, Nat.zero_le _, rfl⟩
        case round =>
          obtain ⟨i, rfl, hi, rfl⟩ := hrel
          have wi : IntKind.i64.wrap ((i : Int) + 1) = (i : Int) + 1 := IntWalk.i64_in _ (by omega)
          have wi2 : wrap64 ((i : Int) + 1) = (i : Int) + 1 := IntWalk.wrap64_in _ (by omega)
          by_cases hl : i < L.length
          · obtain ⟨g, cap, ev, hg, hrow⟩ := hO4.row (by omega)
            injection ev with ev1 ev2 ev3
            subst ev1
            have cc := hrow.cell i 0 (.string L[i]) hl (by decide) (by simp [hl, strC])
            rw [Nat.mul_one, Nat.add_zero] at cc
            have nq : (L[i].toList == s.toList) = false := by
              rw [beq_eq_false_iff_ne]
              exact fun h => hne2 i hl (tl_inj h)
            have il : (i : Int) < (L.length : Int) := by omega
            generalize L[i] = t at *
            clear hrow hO4 hO
            go_wp2_with fail
            go_roundw
            case rel => exact ⟨i + 1, rfl, hl, by first | rfl | trivial⟩
            case measure => simp only [intOf]; omega
          · obtain rfl : i = L.length := by omega
            have x5 := (Ext.refl wr).alloc (.cells #[.string s] 9)
            have hcell : (wr.alloc (.cells #[.string s] 9)).heap[wr.heap.size]? = some (.cells #[.string s] 9 (0, 0)) := heap_last _ _
            have hO5 := hO4.ext x5
            obtain ⟨w5, hw5⟩ : ∃ w5, wr.alloc (.cells #[.string s] 9) = w5 := ⟨_, rfl⟩
            rw [hw5] at x5 hcell hO5
            replace hw5 := Lib.hid hw5
            have hc : ∀ i, i < 1 → ∀ j, j < 1 → w5.cell? ((⟨wr.heap.size, 0, none⟩ : Addr).add (i * 1 + j)) = (strC s)[j]? := by
              intro i hi j hj
              obtain rfl : i = 0 := by omega
              obtain rfl : j = 0 := by omega
              rw [Addr.add_lit, Lib.cell_of_heap hcell]
              rfl
            go_wp2_with (at_builtin; (try rw [hw5.out]); refine wpList_append_structs w5 rfl _ _ rfl tyStr (fun _ => rfl) (fun x u hu => ?c1) (by decide) W.heap.size _ L.length (fun i => L[i]?.getD ⟨#[]⟩) rfl hO5 ?c2 ⟨wr.heap.size, 0, none⟩ 1 1 (fun _ => s) rfl hc ?c3 ?c4 (.inr (by decide)) ?_)
            case c1 => simp [strC] at hu; subst hu; rfl
            case c2 => exact Nat.le_trans y4.size x5.size
            case c3 => omega
            case c4 => omega
            intro v' w6 h1 h2 h3
            have y6 : Ext W w6 := grown_ext' (y4.trans x5) h2 (Nat.le_refl _) (fun g hg => (hO5.lt g hg).1)
            go_wp2_with fail
            go_roundw
            case rel => exact ⟨k + 1, rfl, by omega, hS' _ _ h1, y6⟩
            case measure => simp only [intOf]; omega
      · rw [if_neg hr] at hS S1
        rw [decide_eq_false hr] at S1 H1
        have hS' : ∀ v w, OwnR 1 9 strC W.heap.size v (seenL nm kind k).length (fun i => (seenL nm kind k)[i]?.getD ⟨#[]⟩) w → OwnR 1 9 strC W.heap.size v (seenL nm kind (k + 1)).length (fun i => (seenL nm kind (k + 1))[i]?.getD ⟨#[]⟩) w := by
          intro v w h
          rw [hS]; exact h
        clear hS hr
        go_wp2_with fail
        (with_reducible refine (S1 _).mono ?_)
        rintro e w3 ⟨rfl, x3⟩
        go_wp2_with fail
        (with_reducible refine (H1 _).mono ?_)
        rintro e w4 ⟨rfl, x4⟩
        have hO4 := hS' _ _ (hO.ext (x3.trans x4))
        clear hO hS'
        go_wp2_with fail
        go_roundw
        case rel => exact ⟨k + 1, rfl, by omega, hO4, (xr.trans x3).trans x4⟩
        case measure => simp only [intOf]; omega
    · obtain rfl : k = 5 := by omega
      have hz := seenL_len nm kind
      obtain ⟨n, hn5⟩ : ∃ n, (seenL nm kind 5).length = n := ⟨_, rfl⟩
      rw [hn5] at hz ⊢
      obtain ⟨m, hm⟩ : ∃ m, (rolesOf kind).length = m := ⟨_, rfl⟩
      rw [hm] at hz
      subst hz
      clear SE HR c0 c1 c2 c3 hn5 hO
      go_wp2_with fail
      (with_reducible refine (RO _).mono ?_)
      rintro e w3 ⟨⟨v, rfl, hv⟩, x3⟩
      rcases hv with ⟨e1, rfl⟩ | ⟨b, rfl, _, _⟩
      · have : n = 0 := by rw [← hm, e1]; rfl
        subst this
        go_wp2_with fail
        go_ret
        exact ⟨by first | rfl | (simp; done), (x2.trans xr).trans x3⟩
      · rw [hm]
        go_wp2_with fail
        go_ret
        exact ⟨by first | rfl | (simp; done), (x2.trans xr).trans x3⟩
end Go.Proofs.Ytjjnmefihdjglaa
