/- What the document's Print puts together is a decimal's text: plain. -/
import Derived.Test.YtiancppdcfahaaaDoorStampL
import Derived.Test.YtiancppdcfahaaaDoorRefG
namespace Go.Proofs.YtiancppdcfahaaaDoor
open Go.RowKit

/-- Digits with noughts ahead, till there are more than S. -/
def padD (S : Nat) (l : List Nat) : List Nat := List.replicate (S + 1 - l.length) 0 ++ l
theorem padD_step {S : Nat} {l : List Nat} (h : l.length ≤ S) : padD S (0 :: l) = padD S l := by
  unfold padD
  rw [List.length_cons, show S + 1 - l.length = (S - l.length) + 1 from by omega, show S + 1 - (l.length + 1) = S - l.length from by omega, List.replicate_succ', List.append_assoc]
  rfl
theorem padD_done {S : Nat} {l : List Nat} (h : S < l.length) : padD S l = l := by
  unfold padD
  rw [show S + 1 - l.length = 0 from by omega]; rfl
theorem trim_pad : ∀ l : List Nat, l = List.replicate (l.length - (trimD l).length) 0 ++ trimD l
  | [] => rfl
  | d :: l => by
    by_cases h : d = 0
    · subst h
      rw [trimD_zero]
      have ih := trim_pad l
      have hle : (trimD l).length ≤ l.length := by
        have := congrArg List.length ih
        rw [List.length_append] at this
        omega
      rw [List.length_cons, show l.length + 1 - (trimD l).length = (l.length - (trimD l).length) + 1 from by omega, List.replicate_succ, List.cons_append, ← ih]
    · rw [trimD_pos _ h]; simp
theorem pad_is (m S : Nat) : padD S (digs m) = highD m S ++ lowD m S := by
  have hlt : ∀ d ∈ highD m S ++ lowD m S, d < 10 := by
    intro d h
    rcases List.mem_append.1 h with h | h
    · exact highD_lt m S d h
    · exact lowD_lt m S d h
  have ht := trimD_is _ hlt
  rw [val_low _ _ _ (val_high m S)] at ht
  have hp := trim_pad (highD m S ++ lowD m S)
  rw [ht] at hp
  by_cases h0 : digs (m / 10 ^ S / 10) = []
  · have hl : (highD m S ++ lowD m S).length = S + 1 := by
      rw [List.length_append, lowD_length, highD, h0]
      simp; omega
    rw [hl] at hp
    exact hp.symm
  · obtain ⟨d, l, hd⟩ : ∃ d l, digs (m / 10 ^ S / 10) = d :: l := by
      cases he : digs (m / 10 ^ S / 10) with
      | nil => exact absurd he h0
      | cons d l => exact ⟨d, l, rfl⟩
    have hn := digs_head _ d l hd
    have hh : trimD (highD m S ++ lowD m S) = highD m S ++ lowD m S := by
      rw [highD, hd]
      exact trimD_pos _ hn
    rw [ht] at hh
    rw [hh]
    refine padD_done ?_
    rw [List.length_append, lowD_length]
    have := high_pos m S
    omega

/-- Digits' bytes from a place on, the point ahead of place K. -/
def ptL (K : Nat) : Nat → List Nat → List Nat
  | _, [] => []
  | i, d :: l => (if i = K then [46] else []) ++ (48 + d) :: ptL K (i + 1) l
theorem ptL_past (K : Nat) : ∀ (l : List Nat) (i : Nat), K < i → ptL K i l = asc l
  | [], _, _ => rfl
  | d :: l, i, h => by rw [ptL, if_neg (by omega), ptL_past K l (i + 1) (by omega)]; rfl
theorem ptL_is (K : Nat) (L : List Nat) : ∀ (H : List Nat) (i : Nat), i + H.length = K → ptL K i (H ++ L) = asc H ++ (if 0 < L.length then 46 :: asc L else [])
  | [], i, h => by
    cases L with
    | nil => rfl
    | cons d L =>
      rw [List.nil_append, ptL, if_pos (by simpa using h), ptL_past K L (i + 1) (by simp at h; omega)]
      rfl
  | d :: H, i, h => by
    rw [List.cons_append, ptL, if_neg (by simp at h; omega), ptL_is K L H (i + 1) (by simp at h; omega)]
    rfl
theorem print_ref {M S : Int} (h : goodB M S = true) : printL M S = (if M < 0 then [45] else []) ++ ptL ((padD S.toNat (digs M.natAbs)).length - S.toNat) 0 (padD S.toNat (digs M.natAbs)) := by
  rw [print_is h, pad_is, ptL_is _ _ _ _ (by rw [List.length_append, lowD_length]; omega), lowD_length]

theorem strN_append (l m : List Nat) : strN l ++ strN m = strN (l ++ m) := by
  apply ByteArray.ext
  rw [ByteArray.data_append]
  unfold strN strOfNums
  simp
theorem strN_size (l : List Nat) : (strN l).size = l.length := by
  unfold strN
  rw [strOfNums_size, List.length_map]
theorem ptL_len (K : Nat) : ∀ (l : List Nat) (i : Nat), (ptL K i l).length ≤ 2 * l.length
  | [], _ => Nat.le_refl _
  | d :: l, i => by
    rw [ptL, List.length_append, List.length_cons, List.length_cons]
    have := ptL_len K l (i + 1)
    have h2 : (if i = K then [46] else ([] : List Nat)).length ≤ 1 := by split <;> simp
    omega
end Go.Proofs.YtiancppdcfahaaaDoor

namespace Go.Proofs.YtiancppdcfahaaaDoor
open Go.RowKit

theorem add_str (l m : List Nat) (h : l.length + m.length ≤ 1000000) (w : World) : (Op.stringOp .add (strN l) (strN m)).run Tryd.prog w = .ok (.string (strN (l ++ m))) w := by
  rw [← strN_append]
  exact run_string_add_sum w _ _ (by rw [strN_size, strN_size]; omega)
theorem strN_dig (d : Nat) : strOfNums [48 + (d : Int)] = strN [48 + d] := by
  unfold strN
  simp
theorem strN_nil : strN [] = { data := #[] } := by decide
theorem strN_minus : strN [45] = { data := #[45] } := by decide
theorem strN_point : strN [46] = { data := #[46] } := by decide
theorem printL_bad {M S : Int} (h : ¬ goodB M S = true) : printL M S = [] := by unfold printL; rw [if_neg h]

set_option maxHeartbeats 8000000 in
set_option maxRecDepth 100000 in
theorem RPrint_any (M S : Int) (w : World) (hM : I64 M) (hS : I64 S) :
    Calls Tryd.prog 16 #[decV M S] w fun e w' => e = .returned (.string (strN (printL M S))) ∧ Ext w w' := by
  have G := fun w => RGood_any M S w hM hS
  have A1 := fun w => amount_any M w hM
  have hx : Ext w (w.alloc (.cells #[.int .i64 M, .int .i64 S] 23)) := (Ext.refl _).alloc _
  have h1 : DecIn w.heap.size M S (w.alloc (.cells #[.int .i64 M, .int .i64 S] 23)) := heap_last _ _
  unfold decV at *
  by_cases hg : goodB M S = true
  · rw [hg] at G
    obtain ⟨a1, a2, a3⟩ := good_range hg
    have hP := Lib.hid (print_ref hg)
    obtain ⟨s, rfl⟩ : ∃ s : Nat, S = (s : Int) := ⟨S.toNat, by omega⟩
    obtain ⟨d0, d1⟩ := h1.cells
    have hdl : (digs M.natAbs).length ≤ 19 := digs_length (by unfold I64 at hM; have : (9223372036854775808 : Nat) < 10 ^ 19 := by decide
                                                              omega)
    clear hg
    go_enter Tryd.func16, Tryd.ntmps16
    go_wp2_with fail
    refine (G _).mono ?_
    rintro e w1 ⟨rfl, x1⟩
    replace h1 := h1.ext x1
    replace hx := hx.trans x1
    clear d0 d1
    obtain ⟨d0, d1⟩ := h1.cells
    go_wp2_with fail
    refine (A1 _).mono ?_
    rintro e w2 ⟨⟨v, rfl, hv⟩, x2⟩
    replace h1 := h1.ext x2
    replace hx := hx.trans x2
    go_wp2_with fail
    go_loopw [3] (fun x wr => ∃ l : List Nat, DigV x l wr ∧ l.length ≤ 40 ∧ (∀ d ∈ l, d < 10) ∧ Hid (padD s l = padD s (digs M.natAbs)) ∧ Ext w2 wr) (fun x _ => s + 1 - (match x with | .slice _ n _ => n | _ => 0))
    case atStart => exact ⟨digs M.natAbs, hv, by omega, digs_lt _, rfl, Ext.refl _⟩
    case round =>
      obtain ⟨l, hv, hl, hd10, hr, xr⟩ := hrel
      have g1 := h1.ext xr
      clear d0 d1
      obtain ⟨d0, d1⟩ := g1.cells
      obtain ⟨p, c, rfl⟩ := hv.form
      by_cases hlen : l.length ≤ s
      · have hr2 : Hid (padD s (0 :: l) = padD s (digs M.natAbs)) := Lib.hid (by rw [padD_step hlen]; exact hr.out)
        go_wp2_with (at_builtin; refine wpList_append_dig _ rfl _ _ rfl wr.heap.size 0 _ l rfl rfl ?c1 ?c2 ?c3 ?_)
        case c1 =>
          refine (Lib.cell_of_heap (heap_last _ _) _).trans ?_
          rfl
        case c2 => exact hv.ext ((Ext.refl _).alloc _)
        case c3 => omega
        intro v' w3 hv' x3
        obtain ⟨p2, c2, rfl⟩ := hv'.form
        go_wp2_with fail
        go_roundw
        case rel => exact ⟨0 :: l, hv', by simp only [List.length_cons]; omega, fun d hd => (List.mem_cons.1 hd).elim (fun h => by omega) (hd10 d), hr2, (xr.alloc _).trans x3⟩
        case measure => simp only [List.length_cons]; omega
      · have hr2 := hr.out
        rw [padD_done (by omega)] at hr2
        have hP2 := hP.out
        rw [show (s : Int).toNat = s from rfl, ← hr2] at hP2
        clear hr hP hr2
        obtain ⟨K, hK⟩ : ∃ K, l.length = K + s := ⟨l.length - s, by omega⟩
        rw [show l.length - s = K from by omega] at hP2
        obtain ⟨b, o, c2, hform, hc, hb, hcell⟩ := hv.pos (by omega)
        by_cases hneg : M < 0
        · rw [if_pos hneg] at hP2
          have hP3 := Lib.hid hP2.symm
          clear hP2 hv
          injection hform with e1 _ e2
          subst e1
          subst e2
          go_wp2_with fail
          go_loopw [4, 5] (fun x y wq => ∃ (i : Nat) (acc : List Nat), x = .string (strN acc) ∧ y = .int .i64 i ∧ i ≤ l.length ∧ acc.length ≤ 2 * i + 1 ∧ Hid (acc ++ ptL K i (l.drop i) = printL M s) ∧ Ext wr wq) (fun _ y _ => l.length - (intOf y).toNat)
          case atStart => exact ⟨0, [45], by rw [strN_minus], rfl, by omega, by simp, Lib.hid (by rw [List.drop_zero]; exact hP3.out), Ext.refl _⟩
          case round =>
            obtain ⟨i, acc, rfl, rfl, hi, hacc, hq, xq⟩ := hrel
            have g2 := g1.ext xq
            clear d0 d1
            obtain ⟨d0, d1⟩ := g2.cells
            by_cases hin : i < l.length
            · have hq2 := hq.out
              rw [List.drop_eq_getElem_cons hin, ptL] at hq2
              have c0 := (xq.cell (p := ⟨b, o + i, none⟩) hb).trans (hcell i hin)
              have hlt : l[i] < 10 := hd10 _ (List.getElem_mem hin)
              generalize l[i] = d at *
              have cv := conv1
              have hw : IntKind.u8.wrap (48 + (d : Int)) = 48 + (d : Int) := by rw [IntKind.wrap_u8]; omega
              by_cases hiK : i = K
              · subst hiK
                rw [if_pos rfl] at hq2
                have e1 := add_str acc [46] (by simp; omega)
                have e2 := add_str (acc ++ [46]) [48 + d] (by simp; omega)
                rw [strN_point] at e1
                rw [← strN_dig] at e2
                have HR : Hid (acc ++ [46] ++ [48 + d] ++ ptL i (i + 1) (l.drop (i + 1)) = printL M s) := Lib.hid (by rw [← hq2]; simp)
                clear hq hq2 hcell
                go_wp2_with fail
                exact ⟨⟨i + 1, acc ++ [46, 48 + d], rfl, rfl, hin, by simp only [List.length_append, List.length_cons, List.length_nil]; omega, Lib.hid (by simpa using HR.out), xq.alloc _⟩, by simp only [intOf]; omega⟩
              · rw [if_neg hiK] at hq2
                have e2 := add_str acc [48 + d] (by simp; omega)
                rw [← strN_dig] at e2
                have HR : Hid (acc ++ [48 + d] ++ ptL K (i + 1) (l.drop (i + 1)) = printL M s) := Lib.hid (by rw [← hq2]; simp)
                clear hq hq2 hcell
                go_wp2_with fail
                exact ⟨⟨i + 1, acc ++ [48 + d], rfl, rfl, hin, by simp only [List.length_append, List.length_cons, List.length_nil]; omega, HR, xq.alloc _⟩, by simp only [intOf]; omega⟩
            · obtain rfl : i = l.length := by omega
              have hq2 := hq.out
              rw [List.drop_eq_nil_of_le (Nat.le_refl _), ptL, List.append_nil] at hq2
              clear hq
              go_wp2_with fail
              go_ret
              exact ⟨by rw [← hq2]; rfl, hx.trans (xr.trans xq)⟩
        · rw [if_neg hneg] at hP2
          have hP3 := Lib.hid hP2.symm
          clear hP2 hv
          injection hform with e1 _ e2
          subst e1
          subst e2
          go_wp2_with fail
          go_loopw [4, 5] (fun x y wq => ∃ (i : Nat) (acc : List Nat), x = .string (strN acc) ∧ y = .int .i64 i ∧ i ≤ l.length ∧ acc.length ≤ 2 * i + 1 ∧ Hid (acc ++ ptL K i (l.drop i) = printL M s) ∧ Ext wr wq) (fun _ y _ => l.length - (intOf y).toNat)
          case atStart => exact ⟨0, [], by rw [strN_nil], rfl, by omega, by simp, Lib.hid (by rw [List.drop_zero]; exact hP3.out), Ext.refl _⟩
          case round =>
            obtain ⟨i, acc, rfl, rfl, hi, hacc, hq, xq⟩ := hrel
            have g2 := g1.ext xq
            clear d0 d1
            obtain ⟨d0, d1⟩ := g2.cells
            by_cases hin : i < l.length
            · have hq2 := hq.out
              rw [List.drop_eq_getElem_cons hin, ptL] at hq2
              have c0 := (xq.cell (p := ⟨b, o + i, none⟩) hb).trans (hcell i hin)
              have hlt : l[i] < 10 := hd10 _ (List.getElem_mem hin)
              generalize l[i] = d at *
              have cv := conv1
              have hw : IntKind.u8.wrap (48 + (d : Int)) = 48 + (d : Int) := by rw [IntKind.wrap_u8]; omega
              by_cases hiK : i = K
              · subst hiK
                rw [if_pos rfl] at hq2
                have e1 := add_str acc [46] (by simp; omega)
                have e2 := add_str (acc ++ [46]) [48 + d] (by simp; omega)
                rw [strN_point] at e1
                rw [← strN_dig] at e2
                have HR : Hid (acc ++ [46] ++ [48 + d] ++ ptL i (i + 1) (l.drop (i + 1)) = printL M s) := Lib.hid (by rw [← hq2]; simp)
                clear hq hq2 hcell
                go_wp2_with fail
                exact ⟨⟨i + 1, acc ++ [46, 48 + d], rfl, rfl, hin, by simp only [List.length_append, List.length_cons, List.length_nil]; omega, Lib.hid (by simpa using HR.out), xq.alloc _⟩, by simp only [intOf]; omega⟩
              · rw [if_neg hiK] at hq2
                have e2 := add_str acc [48 + d] (by simp; omega)
                rw [← strN_dig] at e2
                have HR : Hid (acc ++ [48 + d] ++ ptL K (i + 1) (l.drop (i + 1)) = printL M s) := Lib.hid (by rw [← hq2]; simp)
                clear hq hq2 hcell
                go_wp2_with fail
                exact ⟨⟨i + 1, acc ++ [48 + d], rfl, rfl, hin, by simp only [List.length_append, List.length_cons, List.length_nil]; omega, HR, xq.alloc _⟩, by simp only [intOf]; omega⟩
            · obtain rfl : i = l.length := by omega
              have hq2 := hq.out
              rw [List.drop_eq_nil_of_le (Nat.le_refl _), ptL, List.append_nil] at hq2
              clear hq
              go_wp2_with fail
              go_ret
              exact ⟨by rw [← hq2]; rfl, hx.trans (xr.trans xq)⟩
  · rw [show goodB M S = false from by simpa using hg] at G
    rw [printL_bad hg, strN_nil]
    go_enter Tryd.func16, Tryd.ntmps16
    obtain ⟨d0, d1⟩ := h1.cells
    go_wp2_with fail
    refine (G _).mono ?_
    rintro e w1 ⟨rfl, x1⟩
    go_wp2_with fail
    go_ret
    exact ⟨rfl, hx.trans x1⟩
end Go.Proofs.YtiancppdcfahaaaDoor
