/- The walks of the document's compare, within. -/
import Derived.Test.YtbkhdjbhijmghaaRefC
namespace Go.Proofs.Ytbkhdjbhijmghaa
open Go.RowKit

set_option maxHeartbeats 4000000 in
set_option maxRecDepth 100000 in
theorem dcompare_any (v u : Value) (l m : List Nat) (w : World) (hv : DigV v l w) (hu : DigV u m w) (hl : l.length < 100000) (hm : m.length < 100000) :
    Calls Try.prog 48 #[v, u] w fun e w' => e = .returned (.int .i64 (cmpDg l m)) ∧ Ext w w' := by
  obtain ⟨p, c, rfl⟩ := hv.form
  obtain ⟨q, c', rfl⟩ := hu.form
  by_cases hlen : l.length = m.length
  · have hc : Hid (cmpDg l m = cmpEq l m) := Lib.hid (by unfold cmpDg; rw [if_pos hlen])
    have nb : ((l.length : Int) != (m.length : Int)) = false := by simp; omega
    rw [hc.out]
    rw [← hlen] at hu ⊢
    clear nb
    have HL := Lib.hid hlen
    clear hlen
    go_enter Try.func48, Try.ntmps48
    go_wp2_with fail
    go_loopw [5] (fun i wr => ∃ i' : Nat, i = .int .i64 i' ∧ i' ≤ l.length ∧ Hid (cmpEq (l.drop i') (m.drop i') = cmpEq l m) ∧ Ext w wr) (fun i _ => l.length - (intOf i).toNat)
    case atStart => exact ⟨0, rfl, Nat.zero_le _, rfl, Ext.refl _⟩
    case round =>
      obtain ⟨i', rfl, hi, hcm, hx⟩ := hrel
      by_cases hlt : i' < l.length
      · have hlt2 : i' < m.length := by rw [← HL.out]; exact hlt
        obtain ⟨b, o, _, hp, _, hb, hcell⟩ := hv.pos (by omega)
        injection hp with hp _ hp3
        subst hp hp3
        have hu3 : DigV (.slice q m.length c') m w := by rw [← HL.out]; exact hu
        obtain ⟨b', o', _, hq, _, hb', hcell'⟩ := hu3.pos (by omega)
        injection hq with hq _ hq3
        subst hq hq3
        clear hu3
        have c0 := (hx.cell (p := ⟨b, o + i', none⟩) hb).trans (hcell i' hlt)
        have d0 := (hx.cell (p := ⟨b', o' + i', none⟩) hb').trans (hcell' i' hlt2)
        have hcm2 := hcm.out
        rw [List.drop_eq_getElem_cons hlt, List.drop_eq_getElem_cons hlt2, cmpEq] at hcm2
        generalize l[i'] = x at *
        generalize m[i'] = y at *
        clear hcell hcell' hcm hlt2
        by_cases h1 : x < y
        · rw [if_pos h1] at hcm2
          have HC := Lib.hid hcm2
          clear hcm2
          go_wp2_with fail
          go_quiet (fail)
          go_wp2_with fail
          go_ret
          exact ⟨retI HC.out, hx.drewN _⟩
        · rw [if_neg h1] at hcm2
          by_cases h2 : y < x
          · rw [if_pos h2] at hcm2
            have HC := Lib.hid hcm2
            clear hcm2
            go_wp2_with fail
            go_quiet (fail)
            go_wp2_with fail
            go_quiet (fail)
            go_wp2_with fail
            go_ret
            exact ⟨retI HC.out, (hx.drewN _).drewN _⟩
          · rw [if_neg h2] at hcm2
            have HC := Lib.hid hcm2
            clear hcm2
            go_wp2_with fail
            go_quiet (fail)
            go_wp2_with fail
            go_quiet (fail)
            go_wp2_with fail
            go_roundw
            case rel => exact ⟨i' + 1, rfl, hlt, HC, hx.drewN _⟩
            case measure => simp only [intOf]; omega
      · obtain rfl : i' = l.length := by omega
        have hcm2 := hcm.out
        rw [List.drop_length, HL.out, List.drop_length] at hcm2
        have HC : Hid (0 = cmpEq l m) := Lib.hid hcm2
        clear hcm hcm2
        go_wp2_with fail
        go_ret
        exact ⟨retI HC.out, hx⟩
  · by_cases hlt : l.length < m.length
    · have hc : Hid (cmpDg l m = -1) := Lib.hid (by unfold cmpDg; rw [if_neg hlen, if_pos hlt])
      go_enter Try.func48, Try.ntmps48
      go_wp2_with fail
      go_ret
      exact ⟨retI hc.out.symm, Ext.refl _⟩
    · have hc : Hid (cmpDg l m = 1) := Lib.hid (by unfold cmpDg; rw [if_neg hlen, if_neg hlt])
      go_enter Try.func48, Try.ntmps48
      go_wp2_with fail
      go_ret
      exact ⟨retI hc.out.symm, Ext.refl _⟩

/-- The number of a list's first digits. -/
theorem valD_take_succ (l : List Nat) (i : Nat) (h : i < l.length) : valD (l.take (i + 1)) = valD (l.take i) * 10 + l[i] := by
  rw [List.take_succ_eq_append_getElem h, valD_snoc]
theorem valD_take_le (l : List Nat) (i : Nat) : valD (l.take i) ≤ valD l := by
  conv => rhs; rw [← List.take_append_drop i l, valD_append, foldl_val]
  have : 0 < 10 ^ (l.drop i).length := Nat.pow_pos (by omega)
  have := Nat.le_mul_of_pos_right (valD (l.take i)) this
  omega

end Go.Proofs.Ytbkhdjbhijmghaa
