/- polyglotlaw9.short: what it says of a family: the walk. -/
import Derived.Test.YtjjnmefihdjglaaFamK
namespace Go.Proofs.Ytjjnmefihdjglaa
open Go.RowKit

/-- What short tells. -/
def ShortTold (l : List PtD) (e : Ending) : Prop := ∃ b : Bool, e = .returned (.bool b) ∧ (b = true → l.length ≤ 40 ∧ ∀ p ∈ l, p.l.length ≤ 12)

set_option maxHeartbeats 16000000 in
set_option maxRecDepth 100000 in
theorem short9_any (nm : ByteArray) (kd : Int) (un he : ByteArray) (a : Option Addr) (c : Nat) (l : List PtD) (w : World) (hl : (l.length : Int) ≤ 9223372036854775807) (hA : PtsA a l w) :
    Calls Try.prog 9 #[.agg #[.string nm, .int .i64 kd, .string un, .string he, .slice a l.length c]] w fun e w' => ShortTold l e ∧ Ext w w' := by
  obtain ⟨W, hW⟩ : ∃ W, w.alloc (.cells #[.string nm, .int .i64 kd, .string un, .string he, .slice a l.length c] 26) = W := ⟨_, rfl⟩
  have x1 : Ext w W := by rw [← hW]; exact (Ext.refl w).alloc _
  have g1 : FamIn w.heap.size nm kd un he (.slice a l.length c) W := by rw [← hW]; exact heap_last _ _
  replace hW := Lib.hid hW
  obtain ⟨B, hB⟩ : ∃ B, w.heap.size = B := ⟨_, rfl⟩
  rw [hB] at g1
  go_enter Try.func9, Try.ntmps9
  go_wp2_with fail
  rw [hW.out]
  clear hW hB
  go_loopw [3] (fun i wr => ∃ k : Nat, i = .int .i64 k ∧ k ≤ l.length ∧ Hid (∀ j (h : j < l.length), j < k → l[j].l.length ≤ 12) ∧ Ext W wr) (fun i _ => l.length - (intOf i).toNat)
  case atStart => exact ⟨0, rfl, Nat.zero_le _, Lib.hid (fun _ _ h => absurd h (Nat.not_lt_zero _)), Ext.refl _⟩
  case round =>
    obtain ⟨k, rfl, hk, hQ, xr⟩ := hrel
    have gr := g1.ext xr
    obtain ⟨c0, c1, c2, c3, c4⟩ := gr.cells
    by_cases hlt : k < l.length
    · obtain ⟨b, o, rfl, hb, hP⟩ := hA.1 (by omega)
      have ok := (hA.2 _ (List.getElem_mem hlt)).ext (x1.trans xr)
      obtain ⟨p0, _⟩ := hP k hlt
      obtain ⟨p, hp⟩ : ∃ p, l[k] = p := ⟨_, rfl⟩
      rw [hp] at p0 ok
      replace p0 := ((x1.trans xr).cell hb).trans p0
      have i1 : (k : Int) < (l.length : Int) := by omega
      clear hP
      by_cases h12 : 12 < p.l.length
      · have j1 : (12 : Int) < (p.l.length : Int) := by omega
        go_wp2_with fail
        go_ret
        exact ⟨⟨false, rfl, fun h => by cases h⟩, x1.trans xr⟩
      · have j1 : ¬ (12 : Int) < (p.l.length : Int) := by omega
        have hQ2 : Hid (∀ j (h : j < l.length), j < k + 1 → l[j].l.length ≤ 12) := Lib.hid (fun j h hj => by
          by_cases e : j = k
          · subst e; rw [hp]; omega
          · exact hQ.out j h (by omega))
        clear hQ hp
        go_wp2_with fail
        go_loopw [4] (fun i wr2 => ∃ m : Nat, i = .int .i64 m ∧ m ≤ p.l.length ∧ Ext wr wr2) (fun i _ => p.l.length - (intOf i).toNat)
        case atStart => exact ⟨0, rfl, Nat.zero_le _, Ext.refl _⟩
        case round =>
          obtain ⟨m, rfl, hm, xs⟩ := hrel
          clear c0 c1 c2 c3 c4
          obtain ⟨c0, c1, c2, c3, c4⟩ := (gr.ext xs).cells
          have p0' := (xs.cell (Nat.lt_of_lt_of_le hb (x1.trans xr).size)).trans p0
          by_cases hm2 : m < p.l.length
          · obtain ⟨lb, lo, ea, hlb, hL⟩ := ok.2.1 (by omega)
            obtain ⟨z0, z1⟩ := hL m hm2
            replace z0 := (xs.cell (p := ⟨lb, lo + m * 2, none⟩) hlb).trans z0
            replace z1 := (xs.cell (p := ⟨lb, lo + m * 2 + 1, none⟩) hlb).trans z1
            have m1 : (m : Int) < (p.l.length : Int) := by omega
            rw [ea] at p0'
            generalize p.l[m] = q at *
            obtain ⟨q1, q2⟩ := q
            dsimp only at z0 z1
            clear hL ok p0
            have xq := xs.alloc (.cells #[.string q1, .string q2] 61)
            by_cases b1 : 100 < q1.size
            · have b1' : (100 : Int) < (q1.size : Int) := by omega
              go_wp2_with fail
              go_ret
              exact ⟨⟨false, rfl, fun h => by cases h⟩, (x1.trans xr).trans xq⟩
            · have b1' : ¬ (100 : Int) < (q1.size : Int) := by omega
              by_cases b2 : 100 < q2.size
              · have b2' : (100 : Int) < (q2.size : Int) := by omega
                go_wp2_with fail
                go_ret
                exact ⟨⟨false, rfl, fun h => by cases h⟩, (x1.trans xr).trans xq⟩
              · have b2' : ¬ (100 : Int) < (q2.size : Int) := by omega
                go_wp2_with fail
                go_roundw
                case rel => exact ⟨m + 1, rfl, hm2, xq⟩
                case measure => simp only [intOf]; omega
          · have m1 : ¬ (m : Int) < (p.l.length : Int) := by omega
            go_wp2_with fail
            go_roundw
            case rel => exact ⟨k + 1, rfl, hlt, hQ2, xr.trans xs⟩
            case measure => simp only [intOf]; omega
    · have i1 : ¬ (k : Int) < (l.length : Int) := by omega
      have hQ2 : Hid (∀ p ∈ l, p.l.length ≤ 12) := Lib.hid (fun p hp => by
        obtain ⟨j, hj, e⟩ := List.getElem_of_mem hp
        have := hQ.out j hj (by omega)
        rw [e] at this; exact this)
      clear hQ
      by_cases h40 : l.length ≤ 40
      · have h40' : (l.length : Int) ≤ 40 := by omega
        by_cases s1 : nm.size ≤ 100
        · have s1' : (nm.size : Int) ≤ 100 := by omega
          by_cases s2 : un.size ≤ 100
          · have s2' : (un.size : Int) ≤ 100 := by omega
            go_wp2_with fail
            go_ret
            exact ⟨⟨_, rfl, fun _ => ⟨h40, hQ2.out⟩⟩, x1.trans xr⟩
          · have s2' : ¬ (un.size : Int) ≤ 100 := by omega
            go_wp2_with fail
            go_ret
            exact ⟨⟨_, rfl, fun _ => ⟨h40, hQ2.out⟩⟩, x1.trans xr⟩
        · have s1' : ¬ (nm.size : Int) ≤ 100 := by omega
          go_wp2_with fail
          go_ret
          exact ⟨⟨_, rfl, fun _ => ⟨h40, hQ2.out⟩⟩, x1.trans xr⟩
      · have h40' : ¬ (l.length : Int) ≤ 40 := by omega
        go_wp2_with fail
        go_ret
        exact ⟨⟨false, rfl, fun h => by cases h⟩, x1.trans xr⟩
end Go.Proofs.Ytjjnmefihdjglaa
