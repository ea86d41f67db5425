/- The walks of the document's compare, within. -/
import Derived.Test.YtiancppdcfahaaaDoorRefC
namespace Go.Proofs.YtiancppdcfahaaaDoor
open Go.RowKit

set_option maxHeartbeats 4000000 in
set_option maxRecDepth 100000 in
theorem dcompare_any (v u : Value) (l m : List Nat) (w : World) (hv : DigV v l w) (hu : DigV u m w) (hl : l.length < 100000) (hm : m.length < 100000) :
    Calls Tryd.prog 42 #[v, u] w fun e w' => e = .returned (.int .i64 (cmpDg l m)) ∧ Ext w w' := by
  obtain ⟨p, c, rfl⟩ := hv.form
  obtain ⟨q, c', rfl⟩ := hu.form
  by_cases hlen : l.length = m.length
  · have hc : Hid (cmpDg l m = cmpEq l m) := Lib.hid (by unfold cmpDg; rw [if_pos hlen])
    have nb : ((l.length : Int) != (m.length : Int)) = false := by simp; omega
    rw [hc.out]
    rw [← hlen] at hu ⊢
    clear nb
    have HL := Lib.hid hlen
    clear hlen
    go_enter Tryd.func42, Tryd.ntmps42
    go_wp2_with fail
    go_loopw [5] (fun i wr => ∃ i' : Nat, i = .int .i64 i' ∧ i' ≤ l.length ∧ Hid (cmpEq (l.drop i') (m.drop i') = cmpEq l m) ∧ Ext w wr) (fun i _ => l.length - (intOf i).toNat)
    case atStart => exact ⟨0, rfl, Nat.zero_le _, rfl, Ext.refl _⟩
    case round =>
      obtain ⟨i', rfl, hi, hcm, hx⟩ := hrel
      by_cases hlt : i' < l.length
      · have hlt2 : i' < m.length := by rw [← HL.out]; exact hlt
        obtain ⟨b, o, _, hp, _, hb, hcell⟩ := hv.pos (by omega)
        injection hp with hp _ hp3
        subst hp hp3
        have hu3 : DigV (.slice q m.length c') m w := by rw [← HL.out]; exact hu
        obtain ⟨b', o', _, hq, _, hb', hcell'⟩ := hu3.pos (by omega)
        injection hq with hq _ hq3
        subst hq hq3
        clear hu3
        have c0 := (hx.cell (p := ⟨b, o + i', none⟩) hb).trans (hcell i' hlt)
        have d0 := (hx.cell (p := ⟨b', o' + i', none⟩) hb').trans (hcell' i' hlt2)
        have hcm2 := hcm.out
        rw [List.drop_eq_getElem_cons hlt, List.drop_eq_getElem_cons hlt2, cmpEq] at hcm2
        generalize l[i'] = x at *
        generalize m[i'] = y at *
        clear hcell hcell' hcm hlt2
        by_cases h1 : x < y
        · rw [if_pos h1] at hcm2
          have HC := Lib.hid hcm2
          clear hcm2
          go_wp2_with fail
          go_quiet (fail)
          go_wp2_with fail
          go_ret
          exact ⟨retI HC.out, hx.drewN _⟩
        · rw [if_neg h1] at hcm2
          by_cases h2 : y < x
          · rw [if_pos h2] at hcm2
            have HC := Lib.hid hcm2
            clear hcm2
            go_wp2_with fail
            go_quiet (fail)
            go_wp2_with fail
            go_quiet (fail)
            go_wp2_with fail
            go_ret
            exact ⟨retI HC.out, (hx.drewN _).drewN _⟩
          · rw [if_neg h2] at hcm2
            have HC := Lib.hid hcm2
            clear hcm2
            go_wp2_with fail
            go_quiet (fail)
            go_wp2_with fail
            go_quiet (fail)
            go_wp2_with fail
            go_roundw
            case rel => exact ⟨i' + 1, rfl, hlt, HC, hx.drewN _⟩
            case measure => simp only [intOf]; omega
      · obtain rfl : i' = l.length := by omega
        have hcm2 := hcm.out
        rw [List.drop_length, HL.out, List.drop_length] at hcm2
        have HC : Hid (0 = cmpEq l m) := Lib.hid hcm2
        clear hcm hcm2
        go_wp2_with fail
        go_ret
        exact ⟨retI HC.out, hx⟩
  · by_cases hlt : l.length < m.length
    · have hc : Hid (cmpDg l m = -1) := Lib.hid (by unfold cmpDg; rw [if_neg hlen, if_pos hlt])
      go_enter Tryd.func42, Tryd.ntmps42
      go_wp2_with fail
      go_ret
      exact ⟨retI hc.out.symm, Ext.refl _⟩
    · have hc : Hid (cmpDg l m = 1) := Lib.hid (by unfold cmpDg; rw [if_neg hlen, if_neg hlt])
      go_enter Tryd.func42, Tryd.ntmps42
      go_wp2_with fail
      go_ret
      exact ⟨retI hc.out.symm, Ext.refl _⟩

/-- The number of a list's first digits. -/
theorem valD_take_succ (l : List Nat) (i : Nat) (h : i < l.length) : valD (l.take (i + 1)) = valD (l.take i) * 10 + l[i] := by
  rw [List.take_succ_eq_append_getElem h, valD_snoc]
theorem valD_take_le (l : List Nat) (i : Nat) : valD (l.take i) ≤ valD l := by
  conv => rhs; rw [← List.take_append_drop i l, valD_append, foldl_val]
  have : 0 < 10 ^ (l.drop i).length := Nat.pow_pos (by omega)
  have := Nat.le_mul_of_pos_right (valD (l.take i)) this
  omega

set_option maxHeartbeats 4000000 in
set_option maxRecDepth 100000 in
theorem within_any (v : Value) (l : List Nat) (w : World) (hv : DigV v l w) (hl : l.length < 100000) (hd : ∀ d ∈ l, d < 10) (hc : cmpDg l (digs 9223372036854775807) ≤ 0 → valD l ≤ 9223372036854775807) :
    Calls Tryd.prog 35 #[v] w fun e w' => e = .returned (.tuple #[.int .i64 (if cmpDg l (digs 9223372036854775807) ≤ 0 then (valD l : Int) else 0), .bool (decide (cmpDg l (digs 9223372036854775807) ≤ 0))]) ∧ Ext w w' := by
  have D : ∀ w, Calls Tryd.prog 36 #[.int .u64 9223372036854775807] w fun e w' => (∃ v, e = .returned v ∧ DigV v (digs 9223372036854775807) w') ∧ Ext w w' := fun w => digits_any 9223372036854775807 w (by decide)
  have hlen : (digs 9223372036854775807).length ≤ 20 := digs_length (by decide)
  by_cases hle : cmpDg l (digs 9223372036854775807) ≤ 0
  · have hN := hc hle
    rw [if_pos hle, decide_eq_true hle]
    have C := fun u w1 (h1 : DigV v l w1) (h2 : DigV u (digs 9223372036854775807) w1) => dcompare_any v u l (digs 9223372036854775807) w1 h1 h2 hl (by omega)
    generalize digs 9223372036854775807 = big at *
    generalize cmpDg l big = cc at *
    have G : binOp .gtr 3 (.int .i64 cc) (.int .i64 0) = pure (.bool false) := by
      simp only [go_sem]; rw [show decide (cc > 0) = false from by simp only [decide_eq_false_iff_not]; omega]
    clear hc hle
    go_enter Tryd.func35, Tryd.ntmps35
    go_wp2_with fail
    refine (D _).mono ?_
    rintro e w1 ⟨⟨u, rfl, hu⟩, x1⟩
    have hv1 := hv.ext x1
    go_wp2_with fail
    refine (C u _ hv1 hu).mono ?_
    rintro e w2 ⟨rfl, x2⟩
    have hv2 := hv1.ext x2
    have hx := x1.trans x2
    clear x1 x2 hv1 hv
    obtain ⟨p, c, rfl⟩ := hv2.form
    go_wp2_with fail
    go_loopw [4, 5] (fun n i wr => ∃ i' : Nat, i = .int .i64 i' ∧ n = .int .i64 (valD (l.take i')) ∧ i' ≤ l.length ∧ Ext w wr ∧ wr = w2) (fun _ i _ => l.length - (intOf i).toNat)
    case atStart => exact ⟨0, rfl, rfl, Nat.zero_le _, hx, rfl⟩
    case round =>
      obtain ⟨i', rfl, rfl, hi, hxr, rfl⟩ := hrel
      by_cases hlt : i' < l.length
      · obtain ⟨b, o, _, hp, _, hb, hcell⟩ := hv2.pos (by omega)
        injection hp with hp _ hp3
        subst hp hp3
        have c0 := hcell i' hlt
        have hs := valD_take_succ l i' hlt
        have hle2 := valD_take_le l (i' + 1)
        have hdd := hd l[i'] (List.getElem_mem hlt)
        have hgen : ((valD (l.take (i' + 1)) : Nat) : Int) = (valD (l.take i') : Int) * 10 + (l[i'] : Int) := by rw [hs]; omega
        have HG := Lib.hid hgen
        rw [hs] at hle2
        clear hcell hgen hs
        generalize l[i'] = x at *
        generalize valD (l.take i') = y at *
        go_wp2_with fail
        exact ⟨⟨i' + 1, rfl, by rw [HG.out], hlt, hxr, trivial⟩, by simp only [intOf]; omega⟩
      · obtain rfl : i' = l.length := by omega
        rw [List.take_length]
        go_wp2_with fail
        go_ret2
        exact ⟨rfl, hxr⟩
  · rw [if_neg hle, decide_eq_false hle]
    have C := fun u w1 (h1 : DigV v l w1) (h2 : DigV u (digs 9223372036854775807) w1) => dcompare_any v u l (digs 9223372036854775807) w1 h1 h2 hl (by omega)
    generalize digs 9223372036854775807 = big at *
    generalize cmpDg l big = cc at *
    have G : binOp .gtr 3 (.int .i64 cc) (.int .i64 0) = pure (.bool true) := by
      simp only [go_sem]; rw [show decide (cc > 0) = true from by simp only [decide_eq_true_eq]; omega]
    clear hc hle
    go_enter Tryd.func35, Tryd.ntmps35
    go_wp2_with fail
    refine (D _).mono ?_
    rintro e w1 ⟨⟨u, rfl, hu⟩, x1⟩
    have hv1 := hv.ext x1
    go_wp2_with fail
    refine (C u _ hv1 hu).mono ?_
    rintro e w2 ⟨rfl, x2⟩
    go_wp2_with fail
    go_ret2
    exact ⟨rfl, x1.trans x2⟩
end Go.Proofs.YtiancppdcfahaaaDoor
