/- dec.Parse: where the text has digits (alias Tryd): plain lemmas, and the walks. -/
import Derived.Test.YtiancppdcfahaaaDoorDcC
import Derived.Test.YtiancppdcfahaaaDoorLawSum2
namespace Go.Proofs.YtiancppdcfahaaaDoor
open Go.RowKit

/-- Noughts behind, of digits. -/
def dropZ (l : List Nat) : List Nat := (l.reverse.dropWhile (· == 0)).reverse
theorem dropZ_nil : dropZ [] = [] := rfl
theorem dropZ_snoc (l : List Nat) (d : Nat) : dropZ (l ++ [d]) = if d = 0 then dropZ l else l ++ [d] := by
  unfold dropZ
  rw [List.reverse_append]
  show ((d :: l.reverse).dropWhile _).reverse = _
  by_cases h : d = 0
  · subst h; rfl
  · rw [if_neg h, List.dropWhile_cons_of_neg (by simpa using h)]; simp
theorem snoc_ind {P : List Nat → Prop} (h0 : P []) (h1 : ∀ l d, P l → P (l ++ [d])) (l : List Nat) : P l := by
  have : ∀ m : List Nat, P m.reverse := by
    intro m
    induction m with
    | nil => exact h0
    | cons d m ih => rw [List.reverse_cons]; exact h1 _ _ ih
  have h := this l.reverse
  rwa [List.reverse_reverse] at h
theorem dropZ_mem (l : List Nat) : ∀ d ∈ dropZ l, d ∈ l := by
  intro d h
  unfold dropZ at h
  rw [List.mem_reverse] at h
  have := (List.dropWhile_sublist (· == 0) (l := l.reverse)).subset h
  rwa [List.mem_reverse] at this
theorem dropZ_len (l : List Nat) : (dropZ l).length ≤ l.length := by
  unfold dropZ
  have := (List.dropWhile_sublist (· == 0) (l := l.reverse)).length_le
  simpa using this
theorem dropR_asc (l : List Nat) : dropR (asc l) = asc (dropZ l) := by
  induction l using snoc_ind with
  | h0 => rfl
  | h1 l d ih =>
    rw [asc_append, asc_one, dropR_snoc, dropZ_snoc]
    by_cases h : d = 0
    · subst h; rw [if_pos rfl, if_pos rfl]; exact ih
    · rw [if_neg (by omega), if_neg h, asc_append, asc_one]
theorem dropL_asc : ∀ l : List Nat, dropL (asc l) = asc (trimD l)
  | [] => rfl
  | d :: l => by
    show dropL ((48 + d) :: asc l) = _
    rw [dropL_cons]
    by_cases h : d = 0
    · subst h; rw [if_pos rfl, dropL_asc l]; rfl
    · rw [if_neg (by omega)]
      cases d with
      | zero => exact absurd rfl h
      | succ d => rfl
theorem valD_pre (A B : List Nat) : valD (trimD A ++ B) = valD (A ++ B) := by
  rw [valD_append, valD_append, valD_trimD]
/-- Noughts behind the point count for nothing. -/
theorem strip_dropZ (A B : List Nat) (h : ∀ d ∈ B, d < 10) : strip (valD (A ++ B)) B.length = (valD (A ++ dropZ B), (dropZ B).length) := by
  revert h
  induction B using snoc_ind with
  | h0 => intro _; rfl
  | h1 B d ih =>
    intro h
    have hd := h d (by simp)
    rw [← List.append_assoc, valD_snoc, List.length_append, List.length_singleton, strip, dropZ_snoc]
    by_cases h0 : d = 0
    · subst h0
      rw [if_pos (by omega), if_pos rfl, show (valD (A ++ B) * 10 + 0) / 10 = valD (A ++ B) from by omega]
      exact ih (fun x hx => h x (by simp [hx]))
    · rw [if_neg (by omega), if_neg h0, List.length_append, List.length_singleton, ← List.append_assoc, valD_snoc]

theorem asc_lt (l : List Nat) : ∀ d ∈ digitsOf l, d < 10 := digitsOf_lt l
/-- The digits that a list begins with. -/
theorem asc_run : ∀ l : List Nat, asc (digitsOf (l.take (runL l))) = l.take (runL l)
  | [] => rfl
  | c :: l => by
    rw [runL]
    by_cases h : digB c = true
    · rw [if_pos h, List.take_succ_cons, digitsOf_cons, if_pos h]
      have h48 : 48 ≤ c := (of_decide_eq_true h).1
      show (48 + (c - 48)) :: asc (digitsOf (l.take (runL l))) = _
      rw [asc_run l, show 48 + (c - 48) = c from by omega]
    · rw [if_neg h]; rfl
theorem digitsOf_append (l m : List Nat) : digitsOf (l ++ m) = digitsOf l ++ digitsOf m := by unfold digitsOf; rw [List.filter_append, List.map_append]

/-- What Parse tells of digits ahead of a point and behind it. -/
def okV (neg : Bool) (A B : List Nat) : (Int × Int) × Int × Int :=
  if decOk (valD (A ++ B)) B.length then ((decMv neg (valD (A ++ B)) B.length, decSv (valD (A ++ B)) B.length), 0, 0) else ((0, 0), 12, 0)

set_option maxHeartbeats 8000000 in
set_option maxRecDepth 100000 in
theorem DParse_ok (s a b : ByteArray) (k : Nat) (A B : List Nat) (hs : s.size ≤ 9223372036854775807) (ha : a.size + b.size ≤ s.size) (h0 : 0 < s.size) (hc : CutAt s a b k true) (hA : ∀ d ∈ A, d < 10) (hB : ∀ d ∈ B, d < 10) (ba : byL a = asc A) (bb : byL b = asc B) (w : World) :
    Calls Tryd.prog 9 #[.string s] w fun e w' => e = .returned (.tuple #[decV (okV (minusB s) A B).1.1 (okV (minusB s) A B).1.2, .int .i64 (okV (minusB s) A B).2.1, .int .i64 (okV (minusB s) A B).2.2]) ∧ Ext w w' := by
  have hx : Ext w (w.alloc (.cells #[.int .i64 0, .int .i64 0] 23)) := (Ext.refl _).alloc _
  have h2 : DecIn w.heap.size 0 0 (w.alloc (.cells #[.int .i64 0, .int .i64 0] 23)) := heap_last _ _
  have HV : Hid (okV (minusB s) A B = if (valD (A ++ dropZ B)) ≤ 9223372036854775807 ∧ (dropZ B).length ≤ 18 then ((if minusB s then -(valD (A ++ dropZ B) : Int) else (valD (A ++ dropZ B) : Int), ((dropZ B).length : Int)), 0, 0) else ((0, 0), 12, 0)) := Lib.hid (by
    have hst := strip_dropZ A B hB
    unfold okV decMv decSv decOk
    rw [hst]
    by_cases h : (dropZ B).length ≤ 18 ∧ valD (A ++ dropZ B) ≤ 9223372036854775807
    · simp [h.1, h.2]
    · rw [if_neg (fun h2 => h (of_decide_eq_true h2)), if_neg (fun h2 => h ⟨h2.2, h2.1⟩)])
  have R := fun w => TrimRight_any b w (by omega)
  have L := fun w => TrimLeft_any a w (by omega)
  have N := fun (t : ByteArray) w (h1 : t.size ≤ s.size) (h2 : byL t = asc (trimD A ++ dropZ B)) => number_any t (trimD A ++ dropZ B) w (by omega) (fun d hd => by
    rcases List.mem_append.1 hd with h | h
    · exact hA d (trimD_mem h)
    · exact hB d (dropZ_mem B d h)) h2
  rw [valD_pre] at N
  rw [ba, dropL_asc] at L
  rw [bb, dropR_asc] at R
  have hm := minus_at s h0
  have HD : Hid (asc (trimD A) ++ asc (dropZ B) = asc (trimD A ++ dropZ B)) := Lib.hid (asc_append _ _).symm
  have HL : Hid (∀ t : ByteArray, byL t = asc (dropZ B) → t.size = (dropZ B).length) := Lib.hid (fun t h => by rw [← byL_length, h, asc_length])
  generalize valD (A ++ dropZ B) = V at *
  generalize trimD A ++ dropZ B = X at *
  generalize trimD A = X1 at *
  generalize dropZ B = X2 at *
  generalize okV (minusB s) A B = RES at *
  generalize X2.length = K at *
  clear hA hB ba bb
  go_enter Tryd.func9, Tryd.ntmps9
  go_wp2_with fail
  refine (hc _).mono ?_
  rintro e w1 ⟨rfl, x1⟩
  replace h2 := h2.ext x1
  replace hx := hx.trans x1
  go_wp2_with fail
  refine (R _).mono ?_
  rintro e w2 ⟨t2, ⟨rfl, z2, b2⟩, rfl⟩
  have hK := HL.out t2 b2
  have B2 := Lib.hid b2
  clear b2
  go_wp2_with fail
  refine (L _).mono ?_
  rintro e w2 ⟨t1, ⟨rfl, z1, b1⟩, rfl⟩
  have B1 := Lib.hid b1
  clear b1
  have hsum : ¬ 9223372036854775807 < t1.size + t2.size := by omega
  have hsz : (t1 ++ t2).size ≤ s.size := by rw [ByteArray.size_append]; omega
  have hby : Hid (byL (t1 ++ t2) = asc X) := Lib.hid (by rw [byL_append, B1.out, B2.out, HD.out])
  go_wp2_with fail
  refine (N _ _ hsz hby.out).mono ?_
  rintro e w2 ⟨rfl, rfl⟩
  clear hsum hsz hby B1 B2 HD HL N L R hc
  obtain ⟨d0, d1⟩ := h2.cells
  obtain ⟨f0, f1⟩ := h2.free
  have hlt := (Array.getElem?_eq_some_iff.1 h2).1
  by_cases hV : V ≤ 9223372036854775807
  · rw [if_pos hV, decide_eq_true hV]
    by_cases hK2 : K ≤ 18
    · rw [if_pos ⟨hV, hK2⟩] at HV
      cases hmb : minusB s
      · rw [hmb] at HV hm
        have hne : s[0].toNat ≠ 45 := of_decide_eq_false hm.symm
        have hc0 := s[0].toNat_lt
        clear hm hmb
        go_wp2_with fail
        all_goals try (exfalso; simp only [beq_eq_false_iff_ne, beq_iff_eq, bne_iff_ne, bne_eq_false_iff_eq, ne_eq] at *; omega)
        rw [HV.out]
        refine bodyPost_ret (v := .tuple #[.agg #[.int .i64 V, .int .i64 K], .int .i64 0, .int .i64 0]) ?_ rfl ⟨rfl, ext_setDec hx (Nat.le_refl _) _ _⟩
        obtain ⟨e0, e1⟩ := (h2.stored V K).cells
        change (results Tryd.f9 _).run Tryd.prog (setDec w1 w.heap.size V K) = .ok _ (setDec w1 w.heap.size V K)
        generalize setDec w1 w.heap.size V K = W' at *
        simp [results, Tryd.results9, go_sem, e0, e1]
      · rw [hmb] at HV hm
        have hne : s[0].toNat = 45 := of_decide_eq_true hm.symm
        have hc0 := s[0].toNat_lt
        clear hm hmb
        go_wp2_with fail
        all_goals try (exfalso; simp only [beq_eq_false_iff_ne, beq_iff_eq, bne_iff_ne, bne_eq_false_iff_eq, ne_eq] at *; omega)
        rw [HV.out]
        refine bodyPost_ret (v := .tuple #[.agg #[.int .i64 (-(V : Int)), .int .i64 K], .int .i64 0, .int .i64 0]) ?_ rfl ⟨rfl, ext_setDec hx (Nat.le_refl _) _ _⟩
        obtain ⟨e0, e1⟩ := (h2.stored (-(V : Int)) K).cells
        change (results Tryd.f9 _).run Tryd.prog (setDec w1 w.heap.size (-(V : Int)) K) = .ok _ (setDec w1 w.heap.size (-(V : Int)) K)
        generalize setDec w1 w.heap.size (-(V : Int)) K = W' at *
        simp [results, Tryd.results9, go_sem, e0, e1]
    · rw [if_neg (fun h => hK2 h.2)] at HV
      clear hm
      go_wp2_with fail
      rw [HV.out]
      refine bodyPost_ret (v := .tuple #[.agg #[.int .i64 0, .int .i64 0], .int .i64 12, .int .i64 0]) ?_ rfl ⟨rfl, ext_setDec hx (Nat.le_refl _) _ _⟩
      obtain ⟨e0, e1⟩ := (h2.stored 0 0).cells
      change (results Tryd.f9 _).run Tryd.prog (setDec w1 w.heap.size 0 0) = .ok _ (setDec w1 w.heap.size 0 0)
      generalize setDec w1 w.heap.size 0 0 = W' at *
      simp [results, Tryd.results9, go_sem, e0, e1]
  · rw [if_neg hV, decide_eq_false hV]
    rw [if_neg (fun h => hV h.1)] at HV
    clear hm hV
    go_wp2_with fail
    rw [HV.out]
    refine bodyPost_ret (v := .tuple #[.agg #[.int .i64 0, .int .i64 0], .int .i64 12, .int .i64 0]) ?_ rfl ⟨rfl, ext_setDec hx (Nat.le_refl _) _ _⟩
    obtain ⟨e0, e1⟩ := (h2.stored 0 0).cells
    change (results Tryd.f9 _).run Tryd.prog (setDec w1 w.heap.size 0 0) = .ok _ (setDec w1 w.heap.size 0 0)
    generalize setDec w1 w.heap.size 0 0 = W' at *
    simp [results, Tryd.results9, go_sem, e0, e1]

set_option maxHeartbeats 8000000 in
set_option maxRecDepth 100000 in
theorem DParse_no (s a b : ByteArray) (k : Nat) (hc : CutAt s a b k false) (w : World) :
    Calls Tryd.prog 9 #[.string s] w fun e w' => e = .returned (.tuple #[decV 0 0, .int .i64 11, .int .i64 k]) ∧ Ext w w' := by
  have hx : Ext w (w.alloc (.cells #[.int .i64 0, .int .i64 0] 23)) := (Ext.refl _).alloc _
  have h2 : DecIn w.heap.size 0 0 (w.alloc (.cells #[.int .i64 0, .int .i64 0] 23)) := heap_last _ _
  go_enter Tryd.func9, Tryd.ntmps9
  go_wp2_with fail
  refine (hc _).mono ?_
  rintro e w1 ⟨rfl, x1⟩
  replace h2 := h2.ext x1
  replace hx := hx.trans x1
  obtain ⟨d0, d1⟩ := h2.cells
  obtain ⟨f0, f1⟩ := h2.free
  have hlt := (Array.getElem?_eq_some_iff.1 h2).1
  go_wp2_with fail
  refine bodyPost_ret (v := .tuple #[.agg #[.int .i64 0, .int .i64 0], .int .i64 11, .int .i64 k]) ?_ rfl ⟨rfl, ext_setDec hx (Nat.le_refl _) _ _⟩
  obtain ⟨e0, e1⟩ := (h2.stored 0 0).cells
  change (results Tryd.f9 _).run Tryd.prog (setDec w1 w.heap.size 0 0) = .ok _ (setDec w1 w.heap.size 0 0)
  generalize setDec w1 w.heap.size 0 0 = W' at *
  simp [results, Tryd.results9, go_sem, e0, e1]
end Go.Proofs.YtiancppdcfahaaaDoor
