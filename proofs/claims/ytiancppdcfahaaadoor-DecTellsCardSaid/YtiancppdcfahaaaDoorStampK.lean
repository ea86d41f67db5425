/- The walk of the document's Parse. -/
import Derived.Test.YtiancppdcfahaaaDoorStampJ
namespace Go.Proofs.YtiancppdcfahaaaDoor
open Go.RowKit

theorem minus_at (s : ByteArray) (h : 0 < s.size) : minusB s = decide (s[0].toNat = 45) := by
  unfold minusB
  have := byL_drop s 0 h
  rw [List.drop_zero] at this
  rw [this]
  simp
  rfl
theorem minus_none (s : ByteArray) (h : s.size = 0) : minusB s = false := by
  unfold minusB
  have e : byL s = [] := List.eq_nil_of_length_eq_zero (by rw [byL_length]; exact h)
  rw [e]
  rfl

theorem runL_le : ∀ l : List Nat, runL l ≤ l.length
  | [] => Nat.le_refl _
  | d :: l => by
    unfold runL
    split
    · have := runL_le l; simp only [List.length_cons]; omega
    · exact Nat.zero_le _

/-- Where the digits begin, and how the text begins there. -/
def HeadIs (s : ByteArray) (f : Nat) : Prop := (f = 1 ∧ ∃ h : 0 < s.size, s[0].toNat = 45) ∨ (f = 0 ∧ ∃ h : 0 < s.size, s[0].toNat ≠ 45)
theorem HeadIs.from {s : ByteArray} {f : Nat} (h : HeadIs s f) : pFrom s = f := by
  rcases h with ⟨rfl, h0, hm⟩ | ⟨rfl, h0, hm⟩
  · unfold pFrom; rw [minus_at s h0, decide_eq_true hm]; rfl
  · unfold pFrom; rw [minus_at s h0, decide_eq_false hm]; rfl
theorem HeadIs.le {s : ByteArray} {f : Nat} (h : HeadIs s f) : f ≤ s.size := by
  rcases h with ⟨rfl, h0, _⟩ | ⟨rfl, h0, _⟩ <;> omega

theorem run_is (s : ByteArray) (f p : Nat) (hs : s.size ≤ 900) (hf : f ≤ s.size) (hp : f + runL ((byL s).drop f) = p) (w : World) :
    Calls Tryd.prog 21 #[.string s, .int .i64 f] w fun e w' => e = .returned (.int .i64 p) ∧ w = w' := by
  rw [← hp]; exact run_any s f w (by omega) hf

set_option maxHeartbeats 8000000 in
set_option maxRecDepth 100000 in
theorem Parse_none (s : ByteArray) (w : World) (hs : s.size = 0) :
    Calls Tryd.prog 10 #[.string s] w fun e w' => e = .returned (.tuple #[decV 0 0, .int .i64 11, .int .i64 0]) ∧ Ext w w' := by
  have hx : Ext w (w.alloc (.cells #[.int .i64 0, .int .i64 0] 23)) := (Ext.refl _).alloc _
  have R := run_is s 0 0 (by omega) (by omega) (by rw [List.drop_zero, show byL s = [] from List.eq_nil_of_length_eq_zero (by rw [byL_length]; exact hs)]; rfl)
  go_enter Tryd.func10, Tryd.ntmps10
  go_wp2_with fail
  refine (R _).mono ?_
  rintro e w1 ⟨rfl, rfl⟩
  go_wp2_with fail
  exact bodyPost_ret (v := .tuple #[decV 0 0, .int .i64 11, .int .i64 0]) (by simp [results, Tryd.results10, go_sem, decV]) rfl ⟨rfl, hx⟩

set_option maxHeartbeats 8000000 in
set_option maxRecDepth 100000 in
theorem Parse_1 (s : ByteArray) (f : Nat) (w : World) (hs : s.size ≤ 900) (hh : HeadIs s f) (hp : f + runL ((byL s).drop f) = f) :
    Calls Tryd.prog 10 #[.string s] w fun e w' => e = .returned (.tuple #[decV 0 0, .int .i64 11, .int .i64 f]) ∧ Ext w w' := by
  have hx : Ext w (w.alloc (.cells #[.int .i64 0, .int .i64 0] 23)) := (Ext.refl _).alloc _
  have R := run_is s f f hs hh.le hp
  clear hp
  rcases hh with ⟨rfl, h0, hm⟩ | ⟨rfl, h0, hm⟩
  · go_enter Tryd.func10, Tryd.ntmps10
    go_wp2_with fail
    refine (R _).mono ?_
    rintro e w1 ⟨rfl, rfl⟩
    go_wp2_with fail
    exact bodyPost_ret (v := .tuple #[decV 0 0, .int .i64 11, .int .i64 (1 : Nat)]) (by simp [results, Tryd.results10, go_sem, decV]) rfl ⟨rfl, hx⟩
  · go_enter Tryd.func10, Tryd.ntmps10
    go_wp2_with fail
    refine (R _).mono ?_
    rintro e w1 ⟨rfl, rfl⟩
    go_wp2_with fail
    exact bodyPost_ret (v := .tuple #[decV 0 0, .int .i64 11, .int .i64 (0 : Nat)]) (by simp [results, Tryd.results10, go_sem, decV]) rfl ⟨rfl, hx⟩

theorem digitsOf_cons (c : Nat) (l : List Nat) : digitsOf (c :: l) = if digB c then (c - 48) :: digitsOf l else digitsOf l := by
  unfold digitsOf
  by_cases h : digB c = true
  · rw [List.filter_cons_of_pos h, if_pos h]; rfl
  · rw [List.filter_cons_of_neg h, if_neg h]
theorem digitsOf_lt (l : List Nat) : ∀ d ∈ digitsOf l, d < 10 := by
  intro d h
  unfold digitsOf at h
  obtain ⟨c, hc, rfl⟩ := List.mem_map.1 h
  have := (List.mem_filter.1 hc).2
  unfold digB at this
  simp at this
  omega
theorem digitsOf_len (l : List Nat) : (digitsOf l).length ≤ l.length := by
  unfold digitsOf
  rw [List.length_map]
  exact List.length_filter_le _ _
theorem decimal_of (neg : Bool) (l : List Nat) (v : Value) (k : Nat) (e : Int) (hd : ∀ d ∈ l, d < 10) (hl : l.length < 1000) (he : e = k) (hk : k < 1000) (w : World) (hv : DigV v l w) :
    Calls Tryd.prog 23 #[.bool neg, v, .int .i64 e] w fun e w' => e = .returned (.tuple #[decV (decMv neg (valD l) k) (decSv (valD l) k), .bool (decOk (valD l) k)]) ∧ Ext w w' := by
  rw [he]
  refine decimal_any neg (valD l) k v l w hv (trimD_is l hd) hk (by omega) ?_
  have := digs_length (valD_lt l hd)
  omega

set_option maxHeartbeats 8000000 in
set_option maxRecDepth 100000 in
theorem Parse_2 (s : ByteArray) (f p : Nat) (w : World) (hs : s.size ≤ 900) (hh : HeadIs s f) (hp : f + runL ((byL s).drop f) = p) (hp1 : p ≠ f) (hp2 : p < s.size) (h46 : s[p].toNat = 46) (he : p + 1 + runL ((byL s).drop (p + 1)) = p + 1) :
    Calls Tryd.prog 10 #[.string s] w fun e w' => e = .returned (.tuple #[decV 0 0, .int .i64 11, .int .i64 ((p + 1 : Nat) : Int)]) ∧ Ext w w' := by
  have hx : Ext w (w.alloc (.cells #[.int .i64 0, .int .i64 0] 23)) := (Ext.refl _).alloc _
  have R := run_is s f p hs hh.le hp
  have R2 := run_is s (p + 1) (p + 1) hs (by omega) he
  clear he
  clear hp
  rcases hh with ⟨rfl, h0, hm⟩ | ⟨rfl, h0, hm⟩
  · go_enter Tryd.func10, Tryd.ntmps10
    go_wp2_with fail
    refine (R _).mono ?_
    rintro e w1 ⟨rfl, rfl⟩
    go_wp2_with fail
    refine (R2 _).mono ?_
    rintro e w1 ⟨rfl, rfl⟩
    go_wp2_with fail
    exact bodyPost_ret (v := .tuple #[decV 0 0, .int .i64 11, .int .i64 ((p + 1 : Nat) : Int)]) (by simp [results, Tryd.results10, go_sem, decV]) rfl ⟨rfl, hx⟩
  · go_enter Tryd.func10, Tryd.ntmps10
    go_wp2_with fail
    refine (R _).mono ?_
    rintro e w1 ⟨rfl, rfl⟩
    go_wp2_with fail
    refine (R2 _).mono ?_
    rintro e w1 ⟨rfl, rfl⟩
    go_wp2_with fail
    exact bodyPost_ret (v := .tuple #[decV 0 0, .int .i64 11, .int .i64 ((p + 1 : Nat) : Int)]) (by simp [results, Tryd.results10, go_sem, decV]) rfl ⟨rfl, hx⟩

set_option maxHeartbeats 8000000 in
set_option maxRecDepth 100000 in
theorem Parse_3 (s : ByteArray) (f p : Nat) (w : World) (hs : s.size ≤ 900) (hh : HeadIs s f) (hp : f + runL ((byL s).drop f) = p) (hp1 : p ≠ f) (hp2 : p < s.size) (h46 : s[p].toNat = 46) (q : Nat) (he : p + 1 + runL ((byL s).drop (p + 1)) = q) (h5 : q - p - 1 ≠ 0) (h6 : q < s.size) :
    Calls Tryd.prog 10 #[.string s] w fun e w' => e = .returned (.tuple #[decV 0 0, .int .i64 11, .int .i64 (q : Int)]) ∧ Ext w w' := by
  have hx : Ext w (w.alloc (.cells #[.int .i64 0, .int .i64 0] 23)) := (Ext.refl _).alloc _
  have R := run_is s f p hs hh.le hp
  have R2 := run_is s (p + 1) q hs (by omega) he
  clear he
  clear hp
  rcases hh with ⟨rfl, h0, hm⟩ | ⟨rfl, h0, hm⟩
  · go_enter Tryd.func10, Tryd.ntmps10
    go_wp2_with fail
    refine (R _).mono ?_
    rintro e w1 ⟨rfl, rfl⟩
    go_wp2_with fail
    refine (R2 _).mono ?_
    rintro e w1 ⟨rfl, rfl⟩
    go_wp2_with fail
    exact bodyPost_ret (v := .tuple #[decV 0 0, .int .i64 11, .int .i64 (q : Int)]) (by simp [results, Tryd.results10, go_sem, decV]) rfl ⟨rfl, hx⟩
  · go_enter Tryd.func10, Tryd.ntmps10
    go_wp2_with fail
    refine (R _).mono ?_
    rintro e w1 ⟨rfl, rfl⟩
    go_wp2_with fail
    refine (R2 _).mono ?_
    rintro e w1 ⟨rfl, rfl⟩
    go_wp2_with fail
    exact bodyPost_ret (v := .tuple #[decV 0 0, .int .i64 11, .int .i64 (q : Int)]) (by simp [results, Tryd.results10, go_sem, decV]) rfl ⟨rfl, hx⟩

set_option maxHeartbeats 8000000 in
set_option maxRecDepth 100000 in
theorem Parse_5 (s : ByteArray) (f p : Nat) (w : World) (hs : s.size ≤ 900) (hh : HeadIs s f) (hp : f + runL ((byL s).drop f) = p) (hp1 : p ≠ f) (hp2 : p < s.size) (h46 : s[p].toNat ≠ 46) :
    Calls Tryd.prog 10 #[.string s] w fun e w' => e = .returned (.tuple #[decV 0 0, .int .i64 11, .int .i64 (p : Int)]) ∧ Ext w w' := by
  have hx : Ext w (w.alloc (.cells #[.int .i64 0, .int .i64 0] 23)) := (Ext.refl _).alloc _
  have R := run_is s f p hs hh.le hp
  clear hp
  rcases hh with ⟨rfl, h0, hm⟩ | ⟨rfl, h0, hm⟩
  · go_enter Tryd.func10, Tryd.ntmps10
    go_wp2_with fail
    refine (R _).mono ?_
    rintro e w1 ⟨rfl, rfl⟩
    go_wp2_with fail
    exact bodyPost_ret (v := .tuple #[decV 0 0, .int .i64 11, .int .i64 (p : Int)]) (by simp [results, Tryd.results10, go_sem, decV]) rfl ⟨rfl, hx⟩
  · go_enter Tryd.func10, Tryd.ntmps10
    go_wp2_with fail
    refine (R _).mono ?_
    rintro e w1 ⟨rfl, rfl⟩
    go_wp2_with fail
    exact bodyPost_ret (v := .tuple #[decV 0 0, .int .i64 11, .int .i64 (p : Int)]) (by simp [results, Tryd.results10, go_sem, decV]) rfl ⟨rfl, hx⟩

set_option maxHeartbeats 8000000 in
set_option maxRecDepth 100000 in
theorem Parse_4 (s : ByteArray) (f : Nat) (p : Nat) (w : World) (hs : s.size ≤ 900) (hh : HeadIs s f) (hp : f + runL ((byL s).drop f) = p) (hp1 : p ≠ f) (hp2 : p < s.size) (h46 : s[p].toNat = 46) (he : p + 1 + runL ((byL s).drop (p + 1)) = s.size) (h6 : s.size - p - 1 ≠ 0) :
    Calls Tryd.prog 10 #[.string s] w fun e w' => e = .returned (.tuple #[decV (decMv (f == 1) (valD (digitsOf ((byL s).drop f))) (s.size - p - 1)) (decSv (valD (digitsOf ((byL s).drop f))) (s.size - p - 1)), .int .i64 (if decOk (valD (digitsOf ((byL s).drop f))) (s.size - p - 1) then 0 else 12), .int .i64 0]) ∧ Ext w w' := by
  have hx : Ext w (w.alloc (.cells #[.int .i64 0, .int .i64 0] 23)) := (Ext.refl _).alloc _
  have h2 : DecIn w.heap.size 0 0 (w.alloc (.cells #[.int .i64 0, .int .i64 0] 23)) := heap_last _ _
  have R := run_is s f p hs hh.le hp
  obtain ⟨M, hM⟩ : ∃ M, decMv (f == 1) (valD (digitsOf ((byL s).drop f))) (s.size - p - 1) = M := ⟨_, rfl⟩
  obtain ⟨S, hS⟩ : ∃ S, decSv (valD (digitsOf ((byL s).drop f))) (s.size - p - 1) = S := ⟨_, rfl⟩
  obtain ⟨b, hB⟩ : ∃ b, decOk (valD (digitsOf ((byL s).drop f))) (s.size - p - 1) = b := ⟨_, rfl⟩
  have hb0 : b = false → M = 0 ∧ S = 0 := by
    intro h
    rw [← hM, ← hS]
    unfold decMv decSv
    rw [hB, h]
    exact ⟨rfl, rfl⟩
  have D := fun v W (h : DigV v (digitsOf ((byL s).drop f)) W) => decimal_of (f == 1) (digitsOf ((byL s).drop f)) v (s.size - p - 1) ((s.size : Int) - p - 1) (digitsOf_lt _) (by have := digitsOf_len ((byL s).drop f); rw [List.length_drop, byL_length] at this; omega) (by omega) (by omega) W h
  rw [hM, hS, hB] at D ⊢
  clear hM hS hB
  simp only [decV] at D ⊢
  have R2 := run_is s (p + 1) s.size hs (by omega) he
  clear hp he
  rcases hh with ⟨rfl, h0, hm⟩ | ⟨rfl, h0, hm⟩
  · go_enter Tryd.func10, Tryd.ntmps10
    go_wp2_with fail
    refine (R _).mono ?_
    rintro e w1 ⟨rfl, rfl⟩
    go_wp2_with fail
    refine (R2 _).mono ?_
    rintro e w1 ⟨rfl, rfl⟩
    go_wp2_with fail
    rw [show ((s.size : Int) - p - 1 == 0) = false from by simp; omega]
    go_loopw [9, 10] (fun x y wr => ∃ (i : Nat) (l : List Nat), y = .int .i64 i ∧ 1 ≤ i ∧ i ≤ s.size ∧ DigO (w.heap.size + 1) x l wr ∧ l.length ≤ i ∧ Hid (l ++ digitsOf ((byL s).drop i) = digitsOf ((byL s).drop 1)) ∧ Ext (w.alloc (.cells #[.int .i64 0, .int .i64 0] 23)) wr) (fun _ y _ => s.size - (intOf y).toNat)
    case atStart => exact ⟨1, [], rfl, Nat.le_refl _, by omega, DigO.nil _ _, by simp, rfl, Ext.refl _⟩
    case round =>
      obtain ⟨i, l, rfl, l1, l2, hO, hl, hr, xr⟩ := hrel
      by_cases hin : i < s.size
      · have hr2 := hr.out
        rw [byL_drop s i hin, digitsOf_cons] at hr2
        have C := fun w => isDigit_any s[i].toNat w (by have := s[i].toNat_lt; omega)
        by_cases hd : digB s[i].toNat = true
        · rw [if_pos hd] at hr2
          rw [hd] at C
          have HR : Hid (l ++ [s[i].toNat - 48] ++ digitsOf ((byL s).drop (i + 1)) = digitsOf ((byL s).drop 1)) := Lib.hid (by rw [List.append_assoc]; exact hr2)
          have h48 : 48 ≤ s[i].toNat ∧ s[i].toNat ≤ 57 := of_decide_eq_true hd
          clear hr hr2 hd
          go_wp2_with fail
          refine (C _).mono ?_
          rintro e w1 ⟨rfl, rfl⟩
          go_wp2_with (at_builtin; (refine wpList_append_own_dig _ (w.alloc (.cells #[.int .i64 0, .int .i64 0] 23)) rfl _ _ rfl (w.heap.size + 1) wr.heap.size (s[i].toNat - 48) _ l rfl rfl ?c1 ?c2 ?c3 ?c4 ?c5 ?c6 ?_))
          case c1 =>
            refine (Lib.cell_of_heap (heap_last _ _) _).trans ?_
            simp
            omega
          case c2 => exact hO.al _
          case c3 => omega
          case c4 =>
            have := xr.size
            simp only [World.alloc, Array.size_push] at this ⊢
            omega
          case c5 => exact xr.alloc _
          case c6 => exact Nat.le_of_eq (Array.size_push _)
          intro v' w2 hv' x2 b2
          go_wp2_with fail
          go_roundw
          case rel => exact ⟨i + 1, l ++ [s[i].toNat - 48], rfl, by omega, by omega, hv', by simp only [List.length_append, List.length_singleton]; omega, HR, x2⟩
          case measure => simp only [intOf]; omega
        · rw [if_neg hd] at hr2
          rw [show digB s[i].toNat = false from by simpa using hd] at C
          have HR : Hid (l ++ digitsOf ((byL s).drop (i + 1)) = digitsOf ((byL s).drop 1)) := Lib.hid hr2
          clear hr hr2 hd
          go_wp2_with fail
          refine (C _).mono ?_
          rintro e w1 ⟨rfl, rfl⟩
          go_wp2_with fail
          go_roundw
          case rel => exact ⟨i + 1, l, rfl, by omega, by omega, hO, by omega, HR, xr⟩
          case measure => simp only [intOf]; omega
      · obtain rfl : i = s.size := by omega
        have hr2 := hr.out
        rw [List.drop_eq_nil_of_le (by rw [byL_length]; exact Nat.le_refl _), show digitsOf [] = [] from rfl, List.append_nil] at hr2
        subst hr2
        have hV := hO.dig
        have xw := hx.trans xr
        have h3 := h2.ext xr
        clear hr hl hO
        go_wp2_with fail
        refine (D u9 _ hV).mono ?_
        rintro e w1 ⟨rfl, x1⟩
        have h4 := h3.ext x1
        have xw2 := xw.trans x1
        clear D hV h3 xw xr R R2
        have hlt := (Array.getElem?_eq_some_iff.1 h4).1
        cases b
        · obtain ⟨rfl, rfl⟩ := hb0 rfl
          obtain ⟨d0, d1⟩ := h4.cells
          obtain ⟨f0, f1⟩ := h4.free
          go_wp2_with fail
          refine bodyPost_ret (v := .tuple #[.agg #[.int .i64 0, .int .i64 0], .int .i64 12, .int .i64 0]) ?_ rfl ⟨rfl, (ext_setDec xw2 (Nat.le_refl _) _ _).alloc _⟩
          obtain ⟨e0, e1⟩ := ((h4.stored 0 0).ext ((Ext.refl _).alloc (.cells #[.int .i64 0, .int .i64 0] 23))).cells
          change (results Tryd.f10 _).run Tryd.prog ((setDec w1 w.heap.size 0 0).alloc (.cells #[.int .i64 0, .int .i64 0] 23)) = .ok _ ((setDec w1 w.heap.size 0 0).alloc (.cells #[.int .i64 0, .int .i64 0] 23))
          generalize (setDec w1 w.heap.size 0 0).alloc (.cells #[.int .i64 0, .int .i64 0] 23) = W' at *
          simp [results, Tryd.results10, go_sem, e0, e1]
        · obtain ⟨d0, d1⟩ := h4.cells
          obtain ⟨f0, f1⟩ := h4.free
          go_wp2_with fail
          refine bodyPost_ret (v := .tuple #[.agg #[.int .i64 M, .int .i64 S], .int .i64 0, .int .i64 0]) ?_ rfl ⟨rfl, (ext_setDec xw2 (Nat.le_refl _) _ _).alloc _⟩
          obtain ⟨e0, e1⟩ := ((h4.stored M S).ext ((Ext.refl _).alloc (.cells #[.int .i64 M, .int .i64 S] 23))).cells
          change (results Tryd.f10 _).run Tryd.prog ((setDec w1 w.heap.size M S).alloc (.cells #[.int .i64 M, .int .i64 S] 23)) = .ok _ ((setDec w1 w.heap.size M S).alloc (.cells #[.int .i64 M, .int .i64 S] 23))
          generalize (setDec w1 w.heap.size M S).alloc (.cells #[.int .i64 M, .int .i64 S] 23) = W' at *
          simp [results, Tryd.results10, go_sem, e0, e1]
  · go_enter Tryd.func10, Tryd.ntmps10
    go_wp2_with fail
    refine (R _).mono ?_
    rintro e w1 ⟨rfl, rfl⟩
    go_wp2_with fail
    refine (R2 _).mono ?_
    rintro e w1 ⟨rfl, rfl⟩
    go_wp2_with fail
    rw [show ((s.size : Int) - p - 1 == 0) = false from by simp; omega]
    go_loopw [9, 10] (fun x y wr => ∃ (i : Nat) (l : List Nat), y = .int .i64 i ∧ 0 ≤ i ∧ i ≤ s.size ∧ DigO (w.heap.size + 1) x l wr ∧ l.length ≤ i ∧ Hid (l ++ digitsOf ((byL s).drop i) = digitsOf ((byL s).drop 0)) ∧ Ext (w.alloc (.cells #[.int .i64 0, .int .i64 0] 23)) wr) (fun _ y _ => s.size - (intOf y).toNat)
    case atStart => exact ⟨0, [], rfl, Nat.le_refl _, by omega, DigO.nil _ _, by simp, rfl, Ext.refl _⟩
    case round =>
      obtain ⟨i, l, rfl, l1, l2, hO, hl, hr, xr⟩ := hrel
      by_cases hin : i < s.size
      · have hr2 := hr.out
        rw [byL_drop s i hin, digitsOf_cons] at hr2
        have C := fun w => isDigit_any s[i].toNat w (by have := s[i].toNat_lt; omega)
        by_cases hd : digB s[i].toNat = true
        · rw [if_pos hd] at hr2
          rw [hd] at C
          have HR : Hid (l ++ [s[i].toNat - 48] ++ digitsOf ((byL s).drop (i + 1)) = digitsOf ((byL s).drop 0)) := Lib.hid (by rw [List.append_assoc]; exact hr2)
          have h48 : 48 ≤ s[i].toNat ∧ s[i].toNat ≤ 57 := of_decide_eq_true hd
          clear hr hr2 hd
          go_wp2_with fail
          refine (C _).mono ?_
          rintro e w1 ⟨rfl, rfl⟩
          go_wp2_with (at_builtin; (refine wpList_append_own_dig _ (w.alloc (.cells #[.int .i64 0, .int .i64 0] 23)) rfl _ _ rfl (w.heap.size + 1) wr.heap.size (s[i].toNat - 48) _ l rfl rfl ?c1 ?c2 ?c3 ?c4 ?c5 ?c6 ?_))
          case c1 =>
            refine (Lib.cell_of_heap (heap_last _ _) _).trans ?_
            simp
            omega
          case c2 => exact hO.al _
          case c3 => omega
          case c4 =>
            have := xr.size
            simp only [World.alloc, Array.size_push] at this ⊢
            omega
          case c5 => exact xr.alloc _
          case c6 => exact Nat.le_of_eq (Array.size_push _)
          intro v' w2 hv' x2 b2
          go_wp2_with fail
          go_roundw
          case rel => exact ⟨i + 1, l ++ [s[i].toNat - 48], rfl, by omega, by omega, hv', by simp only [List.length_append, List.length_singleton]; omega, HR, x2⟩
          case measure => simp only [intOf]; omega
        · rw [if_neg hd] at hr2
          rw [show digB s[i].toNat = false from by simpa using hd] at C
          have HR : Hid (l ++ digitsOf ((byL s).drop (i + 1)) = digitsOf ((byL s).drop 0)) := Lib.hid hr2
          clear hr hr2 hd
          go_wp2_with fail
          refine (C _).mono ?_
          rintro e w1 ⟨rfl, rfl⟩
          go_wp2_with fail
          go_roundw
          case rel => exact ⟨i + 1, l, rfl, by omega, by omega, hO, by omega, HR, xr⟩
          case measure => simp only [intOf]; omega
      · obtain rfl : i = s.size := by omega
        have hr2 := hr.out
        rw [List.drop_eq_nil_of_le (by rw [byL_length]; exact Nat.le_refl _), show digitsOf [] = [] from rfl, List.append_nil] at hr2
        subst hr2
        have hV := hO.dig
        have xw := hx.trans xr
        have h3 := h2.ext xr
        clear hr hl hO
        go_wp2_with fail
        refine (D u9 _ hV).mono ?_
        rintro e w1 ⟨rfl, x1⟩
        have h4 := h3.ext x1
        have xw2 := xw.trans x1
        clear D hV h3 xw xr R R2
        have hlt := (Array.getElem?_eq_some_iff.1 h4).1
        cases b
        · obtain ⟨rfl, rfl⟩ := hb0 rfl
          obtain ⟨d0, d1⟩ := h4.cells
          obtain ⟨f0, f1⟩ := h4.free
          go_wp2_with fail
          refine bodyPost_ret (v := .tuple #[.agg #[.int .i64 0, .int .i64 0], .int .i64 12, .int .i64 0]) ?_ rfl ⟨rfl, (ext_setDec xw2 (Nat.le_refl _) _ _).alloc _⟩
          obtain ⟨e0, e1⟩ := ((h4.stored 0 0).ext ((Ext.refl _).alloc (.cells #[.int .i64 0, .int .i64 0] 23))).cells
          change (results Tryd.f10 _).run Tryd.prog ((setDec w1 w.heap.size 0 0).alloc (.cells #[.int .i64 0, .int .i64 0] 23)) = .ok _ ((setDec w1 w.heap.size 0 0).alloc (.cells #[.int .i64 0, .int .i64 0] 23))
          generalize (setDec w1 w.heap.size 0 0).alloc (.cells #[.int .i64 0, .int .i64 0] 23) = W' at *
          simp [results, Tryd.results10, go_sem, e0, e1]
        · obtain ⟨d0, d1⟩ := h4.cells
          obtain ⟨f0, f1⟩ := h4.free
          go_wp2_with fail
          refine bodyPost_ret (v := .tuple #[.agg #[.int .i64 M, .int .i64 S], .int .i64 0, .int .i64 0]) ?_ rfl ⟨rfl, (ext_setDec xw2 (Nat.le_refl _) _ _).alloc _⟩
          obtain ⟨e0, e1⟩ := ((h4.stored M S).ext ((Ext.refl _).alloc (.cells #[.int .i64 M, .int .i64 S] 23))).cells
          change (results Tryd.f10 _).run Tryd.prog ((setDec w1 w.heap.size M S).alloc (.cells #[.int .i64 M, .int .i64 S] 23)) = .ok _ ((setDec w1 w.heap.size M S).alloc (.cells #[.int .i64 M, .int .i64 S] 23))
          generalize (setDec w1 w.heap.size M S).alloc (.cells #[.int .i64 M, .int .i64 S] 23) = W' at *
          simp [results, Tryd.results10, go_sem, e0, e1]

set_option maxHeartbeats 8000000 in
set_option maxRecDepth 100000 in
theorem Parse_6 (s : ByteArray) (f : Nat) (w : World) (hs : s.size ≤ 900) (hh : HeadIs s f) (hp : f + runL ((byL s).drop f) = s.size) (hp1 : s.size ≠ f) :
    Calls Tryd.prog 10 #[.string s] w fun e w' => e = .returned (.tuple #[decV (decMv (f == 1) (valD (digitsOf ((byL s).drop f))) 0) (decSv (valD (digitsOf ((byL s).drop f))) 0), .int .i64 (if decOk (valD (digitsOf ((byL s).drop f))) 0 then 0 else 12), .int .i64 0]) ∧ Ext w w' := by
  have hx : Ext w (w.alloc (.cells #[.int .i64 0, .int .i64 0] 23)) := (Ext.refl _).alloc _
  have h2 : DecIn w.heap.size 0 0 (w.alloc (.cells #[.int .i64 0, .int .i64 0] 23)) := heap_last _ _
  have R := run_is s f s.size hs hh.le hp
  obtain ⟨M, hM⟩ : ∃ M, decMv (f == 1) (valD (digitsOf ((byL s).drop f))) 0 = M := ⟨_, rfl⟩
  obtain ⟨S, hS⟩ : ∃ S, decSv (valD (digitsOf ((byL s).drop f))) 0 = S := ⟨_, rfl⟩
  obtain ⟨b, hB⟩ : ∃ b, decOk (valD (digitsOf ((byL s).drop f))) 0 = b := ⟨_, rfl⟩
  have hb0 : b = false → M = 0 ∧ S = 0 := by
    intro h
    rw [← hM, ← hS]
    unfold decMv decSv
    rw [hB, h]
    exact ⟨rfl, rfl⟩
  have D := fun v W (h : DigV v (digitsOf ((byL s).drop f)) W) => decimal_of (f == 1) (digitsOf ((byL s).drop f)) v 0 0 (digitsOf_lt _) (by have := digitsOf_len ((byL s).drop f); rw [List.length_drop, byL_length] at this; omega) (by omega) (by omega) W h
  rw [hM, hS, hB] at D ⊢
  clear hM hS hB
  simp only [decV] at D ⊢
  clear hp
  rcases hh with ⟨rfl, h0, hm⟩ | ⟨rfl, h0, hm⟩
  · go_enter Tryd.func10, Tryd.ntmps10
    go_wp2_with fail
    refine (R _).mono ?_
    rintro e w1 ⟨rfl, rfl⟩
    go_wp2_with fail
    rw [show ((s.size : Int) == 1) = false from by rw [beq_eq_false_iff_ne]; omega]
    go_loopw [9, 10] (fun x y wr => ∃ (i : Nat) (l : List Nat), y = .int .i64 i ∧ 1 ≤ i ∧ i ≤ s.size ∧ DigO (w.heap.size + 1) x l wr ∧ l.length ≤ i ∧ Hid (l ++ digitsOf ((byL s).drop i) = digitsOf ((byL s).drop 1)) ∧ Ext (w.alloc (.cells #[.int .i64 0, .int .i64 0] 23)) wr) (fun _ y _ => s.size - (intOf y).toNat)
    case atStart => exact ⟨1, [], rfl, Nat.le_refl _, by omega, DigO.nil _ _, by simp, rfl, Ext.refl _⟩
    case round =>
      obtain ⟨i, l, rfl, l1, l2, hO, hl, hr, xr⟩ := hrel
      by_cases hin : i < s.size
      · have hr2 := hr.out
        rw [byL_drop s i hin, digitsOf_cons] at hr2
        have C := fun w => isDigit_any s[i].toNat w (by have := s[i].toNat_lt; omega)
        by_cases hd : digB s[i].toNat = true
        · rw [if_pos hd] at hr2
          rw [hd] at C
          have HR : Hid (l ++ [s[i].toNat - 48] ++ digitsOf ((byL s).drop (i + 1)) = digitsOf ((byL s).drop 1)) := Lib.hid (by rw [List.append_assoc]; exact hr2)
          have h48 : 48 ≤ s[i].toNat ∧ s[i].toNat ≤ 57 := of_decide_eq_true hd
          clear hr hr2 hd
          go_wp2_with fail
          refine (C _).mono ?_
          rintro e w1 ⟨rfl, rfl⟩
          go_wp2_with (at_builtin; (refine wpList_append_own_dig _ (w.alloc (.cells #[.int .i64 0, .int .i64 0] 23)) rfl _ _ rfl (w.heap.size + 1) wr.heap.size (s[i].toNat - 48) _ l rfl rfl ?c1 ?c2 ?c3 ?c4 ?c5 ?c6 ?_))
          case c1 =>
            refine (Lib.cell_of_heap (heap_last _ _) _).trans ?_
            simp
            omega
          case c2 => exact hO.al _
          case c3 => omega
          case c4 =>
            have := xr.size
            simp only [World.alloc, Array.size_push] at this ⊢
            omega
          case c5 => exact xr.alloc _
          case c6 => exact Nat.le_of_eq (Array.size_push _)
          intro v' w2 hv' x2 b2
          go_wp2_with fail
          go_roundw
          case rel => exact ⟨i + 1, l ++ [s[i].toNat - 48], rfl, by omega, by omega, hv', by simp only [List.length_append, List.length_singleton]; omega, HR, x2⟩
          case measure => simp only [intOf]; omega
        · rw [if_neg hd] at hr2
          rw [show digB s[i].toNat = false from by simpa using hd] at C
          have HR : Hid (l ++ digitsOf ((byL s).drop (i + 1)) = digitsOf ((byL s).drop 1)) := Lib.hid hr2
          clear hr hr2 hd
          go_wp2_with fail
          refine (C _).mono ?_
          rintro e w1 ⟨rfl, rfl⟩
          go_wp2_with fail
          go_roundw
          case rel => exact ⟨i + 1, l, rfl, by omega, by omega, hO, by omega, HR, xr⟩
          case measure => simp only [intOf]; omega
      · obtain rfl : i = s.size := by omega
        have hr2 := hr.out
        rw [List.drop_eq_nil_of_le (by rw [byL_length]; exact Nat.le_refl _), show digitsOf [] = [] from rfl, List.append_nil] at hr2
        subst hr2
        have hV := hO.dig
        have xw := hx.trans xr
        have h3 := h2.ext xr
        clear hr hl hO
        go_wp2_with fail
        refine (D u9 _ hV).mono ?_
        rintro e w1 ⟨rfl, x1⟩
        have h4 := h3.ext x1
        have xw2 := xw.trans x1
        clear D hV h3 xw xr R
        have hlt := (Array.getElem?_eq_some_iff.1 h4).1
        cases b
        · obtain ⟨rfl, rfl⟩ := hb0 rfl
          obtain ⟨d0, d1⟩ := h4.cells
          obtain ⟨f0, f1⟩ := h4.free
          go_wp2_with fail
          refine bodyPost_ret (v := .tuple #[.agg #[.int .i64 0, .int .i64 0], .int .i64 12, .int .i64 0]) ?_ rfl ⟨rfl, (ext_setDec xw2 (Nat.le_refl _) _ _).alloc _⟩
          obtain ⟨e0, e1⟩ := ((h4.stored 0 0).ext ((Ext.refl _).alloc (.cells #[.int .i64 0, .int .i64 0] 23))).cells
          change (results Tryd.f10 _).run Tryd.prog ((setDec w1 w.heap.size 0 0).alloc (.cells #[.int .i64 0, .int .i64 0] 23)) = .ok _ ((setDec w1 w.heap.size 0 0).alloc (.cells #[.int .i64 0, .int .i64 0] 23))
          generalize (setDec w1 w.heap.size 0 0).alloc (.cells #[.int .i64 0, .int .i64 0] 23) = W' at *
          simp [results, Tryd.results10, go_sem, e0, e1]
        · obtain ⟨d0, d1⟩ := h4.cells
          obtain ⟨f0, f1⟩ := h4.free
          go_wp2_with fail
          refine bodyPost_ret (v := .tuple #[.agg #[.int .i64 M, .int .i64 S], .int .i64 0, .int .i64 0]) ?_ rfl ⟨rfl, (ext_setDec xw2 (Nat.le_refl _) _ _).alloc _⟩
          obtain ⟨e0, e1⟩ := ((h4.stored M S).ext ((Ext.refl _).alloc (.cells #[.int .i64 M, .int .i64 S] 23))).cells
          change (results Tryd.f10 _).run Tryd.prog ((setDec w1 w.heap.size M S).alloc (.cells #[.int .i64 M, .int .i64 S] 23)) = .ok _ ((setDec w1 w.heap.size M S).alloc (.cells #[.int .i64 M, .int .i64 S] 23))
          generalize (setDec w1 w.heap.size M S).alloc (.cells #[.int .i64 M, .int .i64 S] 23) = W' at *
          simp [results, Tryd.results10, go_sem, e0, e1]
  · go_enter Tryd.func10, Tryd.ntmps10
    go_wp2_with fail
    refine (R _).mono ?_
    rintro e w1 ⟨rfl, rfl⟩
    go_wp2_with fail
    rw [show ((s.size : Int) == 0) = false from by rw [beq_eq_false_iff_ne]; omega]
    go_loopw [9, 10] (fun x y wr => ∃ (i : Nat) (l : List Nat), y = .int .i64 i ∧ 0 ≤ i ∧ i ≤ s.size ∧ DigO (w.heap.size + 1) x l wr ∧ l.length ≤ i ∧ Hid (l ++ digitsOf ((byL s).drop i) = digitsOf ((byL s).drop 0)) ∧ Ext (w.alloc (.cells #[.int .i64 0, .int .i64 0] 23)) wr) (fun _ y _ => s.size - (intOf y).toNat)
    case atStart => exact ⟨0, [], rfl, Nat.le_refl _, by omega, DigO.nil _ _, by simp, rfl, Ext.refl _⟩
    case round =>
      obtain ⟨i, l, rfl, l1, l2, hO, hl, hr, xr⟩ := hrel
      by_cases hin : i < s.size
      · have hr2 := hr.out
        rw [byL_drop s i hin, digitsOf_cons] at hr2
        have C := fun w => isDigit_any s[i].toNat w (by have := s[i].toNat_lt; omega)
        by_cases hd : digB s[i].toNat = true
        · rw [if_pos hd] at hr2
          rw [hd] at C
          have HR : Hid (l ++ [s[i].toNat - 48] ++ digitsOf ((byL s).drop (i + 1)) = digitsOf ((byL s).drop 0)) := Lib.hid (by rw [List.append_assoc]; exact hr2)
          have h48 : 48 ≤ s[i].toNat ∧ s[i].toNat ≤ 57 := of_decide_eq_true hd
          clear hr hr2 hd
          go_wp2_with fail
          refine (C _).mono ?_
          rintro e w1 ⟨rfl, rfl⟩
          go_wp2_with (at_builtin; (refine wpList_append_own_dig _ (w.alloc (.cells #[.int .i64 0, .int .i64 0] 23)) rfl _ _ rfl (w.heap.size + 1) wr.heap.size (s[i].toNat - 48) _ l rfl rfl ?c1 ?c2 ?c3 ?c4 ?c5 ?c6 ?_))
          case c1 =>
            refine (Lib.cell_of_heap (heap_last _ _) _).trans ?_
            simp
            omega
          case c2 => exact hO.al _
          case c3 => omega
          case c4 =>
            have := xr.size
            simp only [World.alloc, Array.size_push] at this ⊢
            omega
          case c5 => exact xr.alloc _
          case c6 => exact Nat.le_of_eq (Array.size_push _)
          intro v' w2 hv' x2 b2
          go_wp2_with fail
          go_roundw
          case rel => exact ⟨i + 1, l ++ [s[i].toNat - 48], rfl, by omega, by omega, hv', by simp only [List.length_append, List.length_singleton]; omega, HR, x2⟩
          case measure => simp only [intOf]; omega
        · rw [if_neg hd] at hr2
          rw [show digB s[i].toNat = false from by simpa using hd] at C
          have HR : Hid (l ++ digitsOf ((byL s).drop (i + 1)) = digitsOf ((byL s).drop 0)) := Lib.hid hr2
          clear hr hr2 hd
          go_wp2_with fail
          refine (C _).mono ?_
          rintro e w1 ⟨rfl, rfl⟩
          go_wp2_with fail
          go_roundw
          case rel => exact ⟨i + 1, l, rfl, by omega, by omega, hO, by omega, HR, xr⟩
          case measure => simp only [intOf]; omega
      · obtain rfl : i = s.size := by omega
        have hr2 := hr.out
        rw [List.drop_eq_nil_of_le (by rw [byL_length]; exact Nat.le_refl _), show digitsOf [] = [] from rfl, List.append_nil] at hr2
        subst hr2
        have hV := hO.dig
        have xw := hx.trans xr
        have h3 := h2.ext xr
        clear hr hl hO
        go_wp2_with fail
        refine (D u9 _ hV).mono ?_
        rintro e w1 ⟨rfl, x1⟩
        have h4 := h3.ext x1
        have xw2 := xw.trans x1
        clear D hV h3 xw xr R
        have hlt := (Array.getElem?_eq_some_iff.1 h4).1
        cases b
        · obtain ⟨rfl, rfl⟩ := hb0 rfl
          obtain ⟨d0, d1⟩ := h4.cells
          obtain ⟨f0, f1⟩ := h4.free
          go_wp2_with fail
          refine bodyPost_ret (v := .tuple #[.agg #[.int .i64 0, .int .i64 0], .int .i64 12, .int .i64 0]) ?_ rfl ⟨rfl, (ext_setDec xw2 (Nat.le_refl _) _ _).alloc _⟩
          obtain ⟨e0, e1⟩ := ((h4.stored 0 0).ext ((Ext.refl _).alloc (.cells #[.int .i64 0, .int .i64 0] 23))).cells
          change (results Tryd.f10 _).run Tryd.prog ((setDec w1 w.heap.size 0 0).alloc (.cells #[.int .i64 0, .int .i64 0] 23)) = .ok _ ((setDec w1 w.heap.size 0 0).alloc (.cells #[.int .i64 0, .int .i64 0] 23))
          generalize (setDec w1 w.heap.size 0 0).alloc (.cells #[.int .i64 0, .int .i64 0] 23) = W' at *
          simp [results, Tryd.results10, go_sem, e0, e1]
        · obtain ⟨d0, d1⟩ := h4.cells
          obtain ⟨f0, f1⟩ := h4.free
          go_wp2_with fail
          refine bodyPost_ret (v := .tuple #[.agg #[.int .i64 M, .int .i64 S], .int .i64 0, .int .i64 0]) ?_ rfl ⟨rfl, (ext_setDec xw2 (Nat.le_refl _) _ _).alloc _⟩
          obtain ⟨e0, e1⟩ := ((h4.stored M S).ext ((Ext.refl _).alloc (.cells #[.int .i64 M, .int .i64 S] 23))).cells
          change (results Tryd.f10 _).run Tryd.prog ((setDec w1 w.heap.size M S).alloc (.cells #[.int .i64 M, .int .i64 S] 23)) = .ok _ ((setDec w1 w.heap.size M S).alloc (.cells #[.int .i64 M, .int .i64 S] 23))
          generalize (setDec w1 w.heap.size M S).alloc (.cells #[.int .i64 M, .int .i64 S] 23) = W' at *
          simp [results, Tryd.results10, go_sem, e0, e1]


theorem Parse_any (s : ByteArray) (w : World) (hs : s.size ≤ 900) :
    Calls Tryd.prog 10 #[.string s] w fun e w' => e = .returned (.tuple #[decV (parseV s).1.1 (parseV s).1.2, .int .i64 (parseV s).2.1, .int .i64 (parseV s).2.2]) ∧ Ext w w' := by
  by_cases h0 : s.size = 0
  · have hv : parseV s = ((0, 0), 11, 0) := by
      unfold parseV
      have e : byL s = [] := List.eq_nil_of_length_eq_zero (by rw [byL_length]; exact h0)
      have e2 : pFrom s = 0 := by unfold pFrom; rw [minus_none s h0]; rfl
      simp only [e, e2]
      rfl
    rw [hv]
    exact Parse_none s w h0
  · obtain ⟨f, hh⟩ : ∃ f, HeadIs s f := by
      by_cases hm : s[0].toNat = 45
      · exact ⟨1, .inl ⟨rfl, by omega, hm⟩⟩
      · exact ⟨0, .inr ⟨rfl, by omega, hm⟩⟩
    have hf := hh.from
    have hle := hh.le
    unfold parseV
    rw [hf]
    obtain ⟨p, hp⟩ : ∃ p, f + runL ((byL s).drop f) = p := ⟨_, rfl⟩
    have hps : p ≤ s.size := by
      have := runL_le ((byL s).drop f)
      rw [List.length_drop, byL_length] at this
      omega
    simp only [hp]
    by_cases h1 : p = f
    · rw [if_pos h1]
      subst h1
      exact Parse_1 s p w hs hh hp
    · rw [if_neg h1]
      by_cases h2 : p < s.size
      · rw [byL_get s p h2]
        by_cases h3 : s[p].toNat = 46
        · rw [if_pos (by rw [h3])]
          obtain ⟨e, he⟩ : ∃ e, p + 1 + runL ((byL s).drop (p + 1)) = e := ⟨_, rfl⟩
          have hes : e ≤ s.size := by
            have := runL_le ((byL s).drop (p + 1))
            rw [List.length_drop, byL_length] at this
            omega
          rw [he]
          by_cases h4 : e - p - 1 = 0
          · rw [if_pos h4]
            have : e = p + 1 := by omega
            subst this
            exact Parse_2 s f p w hs hh hp h1 h2 h3 he
          · rw [if_neg h4]
            by_cases h5 : e < s.size
            · rw [if_pos h5]
              exact Parse_3 s f p w hs hh hp h1 h2 h3 e he h4 h5
            · rw [if_neg h5]
              obtain rfl : e = s.size := by omega
              have := Parse_4 s f p w hs hh hp h1 h2 h3 he h4
              by_cases hk : decOk (valD (digitsOf ((byL s).drop f))) (s.size - p - 1) = true
              · rw [if_pos hk] at this ⊢; exact this
              · rw [if_neg hk] at this ⊢
                unfold decMv decSv at this
                rw [if_neg hk, if_neg hk] at this
                exact this
        · rw [if_neg (fun h => h3 (Option.some.inj h)), if_pos h2]
          exact Parse_5 s f p w hs hh hp h1 h2 h3
      · obtain rfl : p = s.size := by omega
        rw [if_neg (by rw [List.getElem?_eq_none (by rw [byL_length]; exact Nat.le_refl _)]; simp), if_neg h2]
        have := Parse_6 s f w hs hh hp h1
        by_cases hk : decOk (valD (digitsOf ((byL s).drop f))) 0 = true
        · rw [if_pos hk] at this ⊢; exact this
        · rw [if_neg hk] at this ⊢
          unfold decMv decSv at this
          rw [if_neg hk, if_neg hk] at this
          exact this
end Go.Proofs.YtiancppdcfahaaaDoor
