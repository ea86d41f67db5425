/- The walks of the document's Uint, Int: they tell what stamp's whole tells. -/
import Derived.Test.YtgbcaiedlmejfaaStampP
import Derived.Test.YtgbcaiedlmejfaaStampO
import Derived.Test.YtgbcaiedlmejfaaStampK
namespace Go.Proofs.Ytgbcaiedlmejfaa
open Go.RowKit

/-- What Uint tells of bytes. -/
def uintL (l : List Nat) : Int × Int × Int :=
  if runL l = 0 ∨ runL l < l.length then (0, 11, (runL l : Int))
  else if valD (digitsOf l) ≤ 9223372036854775807 then ((valD (digitsOf l) : Int), 0, 0) else (0, 12, 0)
theorem runL_all : ∀ l : List Nat, runL l = l.length → ∀ c ∈ l, digB c = true
  | [], _, c, h => by cases h
  | d :: l, h, c, hc => by
    unfold runL at h
    by_cases hd : digB d = true
    · rw [if_pos hd, List.length_cons] at h
      rcases List.mem_cons.1 hc with rfl | hc
      · exact hd
      · exact runL_all l (by omega) c hc
    · rw [if_neg hd] at h; simp at h
theorem wGo_rest : ∀ (l : List Nat) (n : Nat) (o : Bool), (wGo l n o).2.2 = l.drop (runL l)
  | [], _, _ => rfl
  | d :: l, n, o => by
    unfold wGo runL
    by_cases hd : digB d = true
    · have h2 : 48 ≤ d ∧ d ≤ 57 := of_decide_eq_true hd
      rw [if_pos h2, if_pos hd, List.drop_succ_cons]
      split
      · exact wGo_rest l _ _
      · exact wGo_rest l _ _
    · have h2 : ¬ (48 ≤ d ∧ d ≤ 57) := fun h => hd (decide_eq_true h)
      rw [if_neg h2, if_neg hd]; rfl
theorem asc_digitsOf : ∀ l : List Nat, (∀ c ∈ l, digB c = true) → asc (digitsOf l) = l
  | [], _ => rfl
  | d :: l, h => by
    have hd := h d (by simp)
    have h2 : 48 ≤ d ∧ d ≤ 57 := of_decide_eq_true hd
    rw [digitsOf_cons, if_pos hd]
    show (48 + (d - 48)) :: asc (digitsOf l) = d :: l
    rw [asc_digitsOf l (fun c hc => h c (List.mem_cons_of_mem _ hc)), show 48 + (d - 48) = d from by omega]
/-- What whole tells, by the digits behind the sign. -/
theorem wholeV_uint (s : ByteArray) (sg : Bool) (l : List Nat) (hl : (byL s).drop (wFrom s sg) = l) :
    wholeV s sg = (if (uintL l).2.1 = 11 then (0, 11, (uintL l).2.2 + wFrom s sg) else (if 0 < wFrom s sg then -(uintL l).1 else (uintL l).1, (uintL l).2.1, 0)) := by
  have hle := wFrom_le s sg
  have hz : l.length = s.size - wFrom s sg := by rw [← hl, List.length_drop, byL_length]
  have hr := wGo_rest l 0 false
  have hrl := runL_le l
  unfold wholeV uintL
  generalize wFrom s sg = f at *
  rw [hl]
  dsimp only
  by_cases hb : runL l = 0 ∨ runL l < l.length
  · rw [if_pos hb, hr]
    have hlen : (l.drop (runL l)).length = l.length - runL l := List.length_drop
    simp only []
    rw [if_pos (by
      rcases hb with h | h
      · exact .inl (by omega)
      · exact .inr (fun h2 => by rw [h2] at hlen; simp at hlen; omega)), if_pos trivial]
    congr 2
    omega
  · have hall : runL l = l.length := by omega
    have hdig := runL_all l hall
    have ha := asc_digitsOf l hdig
    have hpos : 0 < l.length := by omega
    have hnil : (wGo l 0 false).2.2 = [] := by rw [hr, hall, List.drop_eq_nil_of_le (Nat.le_refl _)]
    rw [if_neg hb, hnil]
    simp only [List.length_nil]
    rw [if_neg (fun h => h.elim (fun h => by omega) (fun h => h rfl))]
    obtain ⟨g1, g2⟩ := wGo_asc (digitsOf l) 0 (digitsOf_lt l) (by omega)
    rw [ha] at g1 g2
    by_cases hv : valD (digitsOf l) ≤ 9223372036854775807
    · rw [g1 hv, if_pos hv]
      rfl
    · obtain ⟨m, hm⟩ := g2 (Nat.lt_of_not_le hv)
      rw [hm, if_neg hv]
      simp
theorem wholeV_false (s : ByteArray) : wholeV s false = uintL (byL s) := by
  rw [wholeV_uint s false (byL s) rfl, show wFrom s false = 0 from rfl]
  unfold uintL
  split
  · rw [if_pos rfl]; simp
  · split
    · rw [if_neg (by simp)]; rfl
    · rw [if_neg (by simp)]; rfl

set_option maxHeartbeats 8000000 in
set_option maxRecDepth 100000 in
theorem RUint_any (s : ByteArray) (w : World) (hs : s.size ≤ 900) :
    Calls Try.prog 11 #[.string s] w fun e w' => e = .returned (.tuple #[.int .i64 (uintL (byL s)).1, .int .i64 (uintL (byL s)).2.1, .int .i64 (uintL (byL s)).2.2]) ∧ Ext w w' := by
  have hrl := runL_le (byL s)
  rw [byL_length] at hrl
  obtain ⟨p, hp⟩ : ∃ p, runL (byL s) = p := ⟨_, rfl⟩
  have R := run_is s 0 p hs (by omega) (by rw [List.drop_zero, hp]; omega)
  by_cases hb : p = 0 ∨ p < s.size
  · have hu : uintL (byL s) = (0, 11, (p : Int)) := by unfold uintL; rw [hp, byL_length, if_pos hb]
    rw [hu]
    rcases hb with hb | hb
    · subst hb
      clear hp hu
      go_enter Try.func11, Try.ntmps11
      go_wp2_with fail
      refine (R _).mono ?_
      rintro e w1 ⟨rfl, rfl⟩
      go_wp2_with fail
      go_ret3
      exact ⟨rfl, Ext.refl _⟩
    · by_cases h0 : p = 0
      · subst h0
        clear hp hu
        go_enter Try.func11, Try.ntmps11
        go_wp2_with fail
        refine (R _).mono ?_
        rintro e w1 ⟨rfl, rfl⟩
        go_wp2_with fail
        go_ret3
        exact ⟨rfl, Ext.refl _⟩
      · clear hp hu
        go_enter Try.func11, Try.ntmps11
        go_wp2_with fail
        refine (R _).mono ?_
        rintro e w1 ⟨rfl, rfl⟩
        go_wp2_with fail
        go_ret3
        exact ⟨rfl, Ext.refl _⟩
  · have hall : p = s.size := by omega
    subst hall
    have hdig := runL_all (byL s) (by rw [hp, byL_length])
    have hpos : 0 < s.size := by omega
    have hu : uintL (byL s) = (if valD (digitsOf (byL s)) ≤ 9223372036854775807 then (valD (digitsOf (byL s)) : Int) else 0, if decide (valD (digitsOf (byL s)) ≤ 9223372036854775807) then 0 else 12, 0) := by
      unfold uintL
      rw [hp, byL_length, if_neg hb]
      by_cases hv : valD (digitsOf (byL s)) ≤ 9223372036854775807
      · rw [if_pos hv, if_pos hv, decide_eq_true hv]; rfl
      · rw [if_neg hv, if_neg hv, decide_eq_false hv]; rfl
    rw [hu]
    have hlen := digitsOf_len (byL s)
    rw [byL_length] at hlen
    have T : ∀ v w, DigV v (digitsOf (byL s)) w → Calls Try.prog 26 #[v] w fun e w' => (∃ v', e = .returned v' ∧ DigV v' (digs (valD (digitsOf (byL s)))) w') ∧ w = w' := fun v w h => by
      rw [← trimD_is _ (digitsOf_lt _)]
      exact trim_any v _ w h (by omega)
    have Wn : ∀ v w, DigV v (digs (valD (digitsOf (byL s)))) w → Calls Try.prog 25 #[v] w fun e w' => e = .returned (.tuple #[.int .i64 (if valD (digitsOf (byL s)) ≤ 9223372036854775807 then (valD (digitsOf (byL s)) : Int) else 0), .bool (decide (valD (digitsOf (byL s)) ≤ 9223372036854775807))]) ∧ Ext w w' := fun v w h => by
      refine within_digs v _ w h ?_
      have := digs_length (valD_lt _ (digitsOf_lt (byL s)))
      omega
    have hv0 : decide (valD (digitsOf (byL s)) ≤ 9223372036854775807) = false → (if valD (digitsOf (byL s)) ≤ 9223372036854775807 then (valD (digitsOf (byL s)) : Int) else 0) = 0 := fun h => if_neg (of_decide_eq_false h)
    generalize (if valD (digitsOf (byL s)) ≤ 9223372036854775807 then (valD (digitsOf (byL s)) : Int) else 0) = V at *
    generalize decide (valD (digitsOf (byL s)) ≤ 9223372036854775807) = ok at *
    generalize digs (valD (digitsOf (byL s))) = ds at *
    have hbyte : ∀ i (h : i < s.size), digB s[i].toNat = true := fun i h => hdig _ (List.mem_of_getElem? (byL_get s i h))
    have hne : ¬ s = ByteArray.empty := by
      intro h
      rw [h] at hpos
      exact absurd hpos (by decide)
    clear hp hu hdig hb hrl
    go_enter Try.func11, Try.ntmps11
    go_wp2_with fail
    refine (R _).mono ?_
    rintro e w1 ⟨rfl, rfl⟩
    go_wp2_with fail
    rw [show ((s.size : Int) == 0) = false from by rw [beq_eq_false_iff_ne]; omega]
    go_loopw [6, 7] (fun x y wr => ∃ (i : Nat) (l : List Nat), y = .int .i64 i ∧ i ≤ s.size ∧ DigO w.heap.size x l wr ∧ l.length ≤ i ∧ Hid (l ++ digitsOf ((byL s).drop i) = digitsOf (byL s)) ∧ Ext w wr) (fun _ y _ => s.size - (intOf y).toNat)
    case atStart => exact ⟨0, [], rfl, Nat.zero_le _, DigO.nil _ _, by simp, Lib.hid (by rw [List.drop_zero]; rfl), Ext.refl _⟩
    case round =>
      obtain ⟨i, l, rfl, l2, hO, hl, hr, xr⟩ := hrel
      by_cases hin : i < s.size
      · have hr2 := hr.out
        have hd := hbyte i hin
        rw [byL_drop s i hin, digitsOf_cons, if_pos hd] at hr2
        have HR : Hid (l ++ [s[i].toNat - 48] ++ digitsOf ((byL s).drop (i + 1)) = digitsOf (byL s)) := Lib.hid (by rw [List.append_assoc]; exact hr2)
        have h48 : 48 ≤ s[i].toNat ∧ s[i].toNat ≤ 57 := of_decide_eq_true hd
        clear hr hr2 hd
        go_wp2_with (at_builtin; (refine wpList_append_own_dig _ w rfl _ _ rfl w.heap.size wr.heap.size (s[i].toNat - 48) _ l rfl rfl ?c1 ?c2 ?c3 ?c4 ?c5 ?c6 ?_))
        case c1 =>
          refine (Lib.cell_of_heap (heap_last _ _) _).trans ?_
          simp
          omega
        case c2 => exact hO.al _
        case c3 => omega
        case c4 =>
          have := xr.size
          simp only [World.alloc, Array.size_push] at this ⊢
          omega
        case c5 => exact xr.alloc _
        case c6 => exact Nat.le_refl _
        intro v' w2 hv' x2 b2
        go_wp2_with fail
        go_roundw
        case rel => exact ⟨i + 1, l ++ [s[i].toNat - 48], rfl, hin, hv', by simp only [List.length_append, List.length_singleton]; omega, HR, x2⟩
        case measure => simp only [intOf]; omega
      · obtain rfl : i = s.size := by omega
        have hr2 := hr.out
        rw [List.drop_eq_nil_of_le (by rw [byL_length]; exact Nat.le_refl _), show digitsOf [] = [] from rfl, List.append_nil] at hr2
        have hV := hO.dig
        rw [hr2] at hV
        clear hr hl hO hr2
        go_wp2_with fail
        refine (T _ _ hV).mono ?_
        rintro e w1 ⟨⟨v1, rfl, hv1⟩, rfl⟩
        go_wp2_with fail
        refine (Wn _ _ hv1).mono ?_
        rintro e w2 ⟨rfl, x2⟩
        clear T Wn
        cases ok
        · obtain rfl := hv0 rfl
          go_wp2_with fail
          go_ret3
          exact ⟨rfl, xr.trans x2⟩
        · go_wp2_with fail
          go_ret3
          exact ⟨rfl, xr.trans x2⟩

theorem byL_tail (s : ByteArray) : byL (s.extract 1 s.size) = (byL s).drop 1 := by
  unfold byL
  simp
  exact List.take_of_length_le (by simp)

theorem uintL_facts (l : List Nat) (h : l.length ≤ 900) : (0 ≤ (uintL l).1 ∧ (uintL l).1 ≤ 9223372036854775807) ∧ (0 ≤ (uintL l).2.2 ∧ (uintL l).2.2 ≤ 900) ∧ ((uintL l).2.1 ≠ 11 → (uintL l).2.2 = 0) := by
  have := runL_le l
  unfold uintL
  split
  · exact ⟨⟨Int.le_refl _, by simp only []; omega⟩, ⟨by simp only []; omega, by simp only []; omega⟩, fun h => absurd rfl h⟩
  · split
    · exact ⟨⟨by simp only []; omega, by simp only []; omega⟩, ⟨Int.le_refl _, by simp only []; omega⟩, fun _ => rfl⟩
    · exact ⟨⟨Int.le_refl _, by simp only []; omega⟩, ⟨Int.le_refl _, by simp only []; omega⟩, fun _ => rfl⟩

set_option maxHeartbeats 8000000 in
set_option maxRecDepth 100000 in
theorem RInt_minus (s : ByteArray) (w : World) (hs : s.size ≤ 900) (hpos : 0 < s.size) (hm : s[0].toNat = 45) :
    Calls Try.prog 9 #[.string s] w fun e w' => e = .returned (.tuple #[.int .i64 (wholeV s true).1, .int .i64 (wholeV s true).2.1, .int .i64 (wholeV s true).2.2]) ∧ Ext w w' := by
  have hf : wFrom s true = 1 := by unfold wFrom; rw [minus_at s hpos, decide_eq_true hm]; rfl
  have hw := wholeV_uint s true _ rfl
  have hz : (s.extract 1 s.size).size = s.size - 1 := by simp
  have U := fun w => RUint_any (s.extract 1 s.size) w (by omega)
  rw [byL_tail s] at U
  have hb := uintL_facts ((byL s).drop 1) (by rw [List.length_drop, byL_length]; omega)
  rw [hf] at hw
  rw [hw]
  generalize uintL ((byL s).drop 1) = V at *
  obtain ⟨a, c, off⟩ := V
  obtain ⟨⟨b1, b2⟩, ⟨b3, b4⟩, b5⟩ := hb
  simp only [] at U b1 b2 b3 b4 b5 ⊢
  have h1 : (1 : Int) ≤ (s.size : Int) := by omega
  clear hw hf hz
  by_cases hc : c = 11
  · subst hc
    rw [if_pos rfl]
    clear b5
    go_enter Try.func9, Try.ntmps9
    go_wp2_with fail
    (with_reducible refine (U _).mono ?_)
    rintro e w1 ⟨rfl, x1⟩
    go_wp2_with fail
    go_ret3
    exact ⟨rfl, x1⟩
  · rw [if_neg hc, if_pos (by omega)]
    clear b5
    go_enter Try.func9, Try.ntmps9
    go_wp2_with fail
    (with_reducible refine (U _).mono ?_)
    rintro e w1 ⟨rfl, x1⟩
    go_wp2_with fail
    go_ret3
    exact ⟨rfl, x1⟩

set_option maxHeartbeats 8000000 in
set_option maxRecDepth 100000 in
theorem RInt_plain (s : ByteArray) (w : World) (hs : s.size ≤ 900) (hpos : 0 < s.size) (hm : s[0].toNat ≠ 45) :
    Calls Try.prog 9 #[.string s] w fun e w' => e = .returned (.tuple #[.int .i64 (wholeV s true).1, .int .i64 (wholeV s true).2.1, .int .i64 (wholeV s true).2.2]) ∧ Ext w w' := by
  have hf : wFrom s true = 0 := by unfold wFrom; rw [minus_at s hpos, decide_eq_false hm]; rfl
  have hw := wholeV_uint s true _ rfl
  have hcut : s.extract 0 s.size = s := by simp
  have U := fun w => RUint_any s w hs
  have hb := uintL_facts (byL s) (by rw [byL_length]; omega)
  rw [hf, List.drop_zero] at hw
  rw [hw]
  generalize uintL (byL s) = V at *
  obtain ⟨a, c, off⟩ := V
  obtain ⟨⟨b1, b2⟩, ⟨b3, b4⟩, b5⟩ := hb
  simp only [] at U b1 b2 b3 b4 b5 ⊢
  clear hw hf
  by_cases hc : c = 11
  · subst hc
    rw [if_pos rfl]
    clear b5
    go_enter Try.func9, Try.ntmps9
    go_wp2_with fail
    (with_reducible refine (U _).mono ?_)
    rintro e w1 ⟨rfl, x1⟩
    go_wp2_with fail
    go_ret3
    exact ⟨ret3 rfl rfl (by simp), x1⟩
  · rw [if_neg hc, if_neg (by omega)]
    clear b5
    go_enter Try.func9, Try.ntmps9
    go_wp2_with fail
    (with_reducible refine (U _).mono ?_)
    rintro e w1 ⟨rfl, x1⟩
    go_wp2_with fail
    go_ret3
    exact ⟨rfl, x1⟩

set_option maxHeartbeats 8000000 in
set_option maxRecDepth 100000 in
theorem RInt_none (s : ByteArray) (w : World) (h0 : s.size = 0) :
    Calls Try.prog 9 #[.string s] w fun e w' => e = .returned (.tuple #[.int .i64 (wholeV s true).1, .int .i64 (wholeV s true).2.1, .int .i64 (wholeV s true).2.2]) ∧ Ext w w' := by
  have he : byL s = [] := List.eq_nil_of_length_eq_zero (by rw [byL_length]; exact h0)
  have hw : wholeV s true = (0, 11, 0) := by
    rw [wholeV_uint s true _ rfl, he, List.drop_nil, show uintL [] = (0, 11, 0) from rfl, if_pos rfl]
    have : wFrom s true = 0 := by unfold wFrom; rw [minus_none s h0]; rfl
    rw [this]; rfl
  have U := fun w => RUint_any ByteArray.empty w (by decide)
  rw [show uintL (byL ByteArray.empty) = (0, 11, 0) from by decide] at U
  rw [hw]
  clear hw he
  go_enter Try.func9, Try.ntmps9
  go_wp2_with fail
  (with_reducible refine (U _).mono ?_)
  rintro e w1 ⟨rfl, x1⟩
  go_wp2_with fail
  go_ret3
  exact ⟨rfl, x1⟩

theorem RInt_any (s : ByteArray) (w : World) (hs : s.size ≤ 900) :
    Calls Try.prog 9 #[.string s] w fun e w' => e = .returned (.tuple #[.int .i64 (wholeV s true).1, .int .i64 (wholeV s true).2.1, .int .i64 (wholeV s true).2.2]) ∧ Ext w w' := by
  by_cases hpos : 0 < s.size
  · by_cases hm : s[0].toNat = 45
    · exact RInt_minus s w hs hpos hm
    · exact RInt_plain s w hs hpos hm
  · exact RInt_none s w (by omega)
end Go.Proofs.Ytgbcaiedlmejfaa
