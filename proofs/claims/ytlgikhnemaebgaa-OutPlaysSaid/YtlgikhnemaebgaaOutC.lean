/- The contract of out.Put: all parts, if all have room; else none, and it is full. -/
import Derived.Test.YtlgikhnemaebgaaOutB
import Derived.Test.YtlgikhnemaebgaaStrs
namespace Go.Proofs.Ytlgikhnemaebgaa
open Go.RowKit

/-- Its block is none of an Out's. -/
def Apart (A : Option Addr) (b : Nat) (v : Value) : Prop := ∀ a, A = some a → ¬ Its b v a.block

theorem Strs.kept {S : Nat → Prop} {w w' : World} {A : Option Addr} {ss : List ByteArray} (h : Strs w A ss) (hk : Kept S w w') (ha : ∀ a, A = some a → ¬ S a.block) : Strs w' A ss := by
  intro i hi
  obtain ⟨a, hA, hlt, hc⟩ := h i hi
  refine ⟨a, hA, Nat.lt_of_lt_of_le hlt hk.size, ?_⟩
  rw [World.cell?_of_block (w := w) (hk.block _ (by rw [block_add]; exact hlt) (by rw [block_add]; exact ha a hA))]
  exact hc

/-- How many bytes the texts have. -/
def total (ss : List ByteArray) : Nat := (ss.map ByteArray.size).sum
/-- The texts one behind the other. -/
def joined (ss : List ByteArray) : List UInt8 := ss.flatMap fun s => s.data.toList
theorem total_cons (s : ByteArray) (ss : List ByteArray) : total (s :: ss) = s.size + total ss := by simp [total]
theorem joined_cons (s : ByteArray) (ss : List ByteArray) : joined (s :: ss) = s.data.toList ++ joined ss := by simp [joined]
theorem joined_length (ss : List ByteArray) : (joined ss).length = total ss := by
  induction ss with
  | nil => rfl
  | cons s ss ih => rw [joined_cons, total_cons, List.length_append, ih, Array.length_toList]; rfl
theorem drop_cons (ss : List ByteArray) (k : Nat) (h : k < ss.length) : ss.drop k = ss.getD k ByteArray.empty :: ss.drop (k + 1) := by
  rw [List.drop_eq_getElem_cons h, List.getD_eq_getElem?_getD, List.getElem?_eq_getElem h]; rfl

theorem OutIs.setFull {B b : Nat} {v : Value} {l : List UInt8} {most : Int} {full : Bool} {w : World} (h : OutIs B b v l most full w) (f : Bool) :
    OutIs B b v l most f (w.setCell ⟨b, 3, none⟩ (.bool f)) ∧ Kept (Its b v) w (w.setCell ⟨b, 3, none⟩ (.bool f)) := by
  have hne := h.ne
  obtain ⟨hB, p, hp, hb, hown, hnil⟩ := h
  refine ⟨⟨hB, p, hp, ?_, kept_owned hown (Kept.of_set w ⟨b, 3, none⟩ _) (fun k e he => hne (by rw [e, he])), hnil⟩, (Kept.of_set w ⟨b, 3, none⟩ _).mono fun _ hk => .inl hk⟩
  simp [World.setCell, Array.getElem?_modify, hb]
theorem OutIs.full {B b : Nat} {v : Value} {l : List UInt8} {most : Int} {full : Bool} {w : World} (h : OutIs B b v l most full w) : w.cell? ⟨b, 3, none⟩ = some (.bool full) ∧ w.frozen? ⟨b, 3, none⟩ = false := by
  obtain ⟨hB, p, hp, hb, hown, hnil⟩ := h
  exact ⟨by rw [Lib.cell_of_heap hb]; rfl, Lib.frozen_of_heap hb 3⟩

theorem total_append (a b : List ByteArray) : total (a ++ b) = total a + total b := by simp [total]
theorem total_take (ss : List ByteArray) (k : Nat) (h : k < ss.length) : total (ss.take k) + (ss.getD k ByteArray.empty).size ≤ total ss := by
  have e := total_append (ss.take k) (ss.drop k)
  rw [List.take_append_drop, drop_cons ss k h, total_cons] at e
  omega
theorem joined_take (ss : List ByteArray) (k : Nat) (h : k < ss.length) : joined (ss.take (k + 1)) = joined (ss.take k) ++ (ss.getD k ByteArray.empty).data.toList := by
  rw [List.take_succ_eq_append_getElem h, joined, List.flatMap_append, ← joined]
  simp [List.getD_eq_getElem?_getD, List.getElem?_eq_getElem h]

set_option maxHeartbeats 4000000 in
set_option maxRecDepth 100000 in
/-- Parts that all have room. -/
theorem Put_yes {B b : Nat} {v : Value} {l : List UInt8} {most : Int} {w : World} {A : Option Addr} {cap : Nat} (ss : List ByteArray) (h : OutIs B b v l most false w) (hm : 0 ≤ most ∧ most ≤ 20000) (hl : l.length ≤ most) (hBw : B ≤ w.heap.size)
    (hs : Strs w A ss) (ha : 0 < ss.length → Apart A b v) (hsz : ss.length ≤ 9223372036854775807) (hfit : (l.length : Int) + total ss ≤ most) :
    Calls Try.prog 8 #[.pointer (some ⟨b, 0, none⟩), .slice A ss.length cap] w fun e w' => e = .returned (.bool true) ∧ ∃ v', OutIs B b v' (l ++ joined ss) most false w' ∧ Kept (Its b v) w w' ∧ (v'.ownBlock = v.ownBlock ∨ ∀ k, v'.ownBlock = some k → w.heap.size ≤ k) := by
  go_enter Try.func8, Try.ntmps8
  go_wp2_with fail
  refine (Left_any h hm hl).mono ?_
  rintro e w1 ⟨rfl, n1, rfl⟩
  simp only [Bool.false_eq_true, if_false]
  go_wp2_with fail
  go_loopw [5, 14] (fun r k wr => ∃ (R : Int) (k' : Nat), k' ≤ ss.length ∧ r = .int .i64 R ∧ k = .int .i64 k' ∧ R ≤ 20000 ∧ (total (ss.drop k') : Int) ≤ R ∧ OutIs B b v l most false wr ∧ Kept (Its b v) w wr) (fun _ k _ => ss.length - (intOf k).toNat)
  case atStart => exact ⟨_, 0, by omega, rfl, rfl, by omega, by rw [List.drop_zero]; omega, h.drewN _, (Kept.refl _ w).drewN _⟩
  case round =>
    obtain ⟨R, k', hk, rfl, rfl, hR, ht, hO, hK⟩ := hrel
    by_cases hlt : k' < ss.length
    · have hsr := hs.kept hK (ha (by omega))
      obtain ⟨a, hA, hab, hc⟩ := hsr k' hlt
      subst hA
      rw [drop_cons ss k' hlt, total_cons] at ht
      obtain ⟨s, hse⟩ : ∃ s, ss.getD k' ByteArray.empty = s := ⟨_, rfl⟩
      rw [hse] at hc ht
      clear hse
      have hz : (s.size : Int) ≤ R := by omega
      obtain ⟨c3, f3⟩ := hO.full
      go_wp2_with fail
      go_roundw
      case rel =>
        obtain ⟨q1, q2⟩ := hO.setFull (decide (R < (s.size : Int)))
        have hd : decide (R < (s.size : Int)) = false := by simp; omega
        rw [hd] at q1 q2
        rw [hd]
        exact ⟨R - s.size, k' + 1, by omega, rfl, by go_num, by omega, by omega, q1, hK.trans q2 (fun _ _ x => x)⟩
      case measure => simp [intOf]; omega
    · obtain rfl : k' = ss.length := by omega
      obtain ⟨c3, f3⟩ := hO.full
      clear hlt hk
      go_wp2_with fail
      go_loopw [46] (fun k w2 => ∃ (k' : Nat) (v' : Value), k' ≤ ss.length ∧ k = .int .i64 k' ∧ OutIs B b v' (l ++ joined (ss.take k')) most false w2 ∧ Kept (Its b v) w w2 ∧ (v'.ownBlock = v.ownBlock ∨ ∀ k, v'.ownBlock = some k → w.heap.size ≤ k)) (fun k _ => ss.length - (intOf k).toNat)
      case atStart => exact ⟨0, v, by omega, rfl, by rw [List.take_zero]; simpa [joined] using hO, hK, .inl rfl⟩
      case round =>
        obtain ⟨k', v', hk, rfl, hO2, hK2, hv⟩ := hrel
        by_cases hlt : k' < ss.length
        · have hsr := hs.kept hK2 (ha (by omega))
          obtain ⟨a, hA, hab, hc⟩ := hsr k' hlt
          have hab0 : a.block < w.heap.size := by
            obtain ⟨a0, hA0, h0, _⟩ := hs k' hlt
            rw [hA] at hA0; injection hA0 with hA0; rw [hA0]; exact h0
          subst hA
          have htt := total_take ss k' hlt
          have hjt := joined_take ss k' hlt
          have hjl := joined_length (ss.take k')
          obtain ⟨s, hse⟩ : ∃ s, ss.getD k' ByteArray.empty = s := ⟨_, rfl⟩
          rw [hse] at hc htt hjt
          have HJ := Lib.hid hjt
          clear hse hjt
          go_wp2_with fail
          refine (WriteString_any s hO2 (by rw [List.length_append, hjl]; omega) (by have := hK2.size; omega)).mono ?_
          rintro e w3 ⟨rfl, v3, hO3, hK3, hv3⟩
          go_wp2_with fail
          go_roundw
          case rel =>
            refine ⟨k' + 1, v3, by omega, by go_num, by rw [HJ.out, ← List.append_assoc]; exact hO3, hK2.trans hK3 (fun i hi hx => ?_), ?_⟩
            · rcases hx with hx | hx
              · exact .inl hx
              · rcases hv with hv | hv
                · exact .inr (by rw [← hv]; exact hx)
                · have := hv i hx; omega
            · have hsz := hK2.size
              rcases hv3 with h3 | h3
              · rw [h3]; exact hv
              · exact .inr fun k hk => by have := h3 k hk; omega
          case measure => simp [intOf]; omega
        · obtain rfl : k' = ss.length := by omega
          clear hlt hk
          go_wp2_with fail
          go_ret
          rw [List.take_length] at hO2
          exact ⟨rfl, v', hO2, hK2, hv⟩

set_option maxHeartbeats 4000000 in
set_option maxRecDepth 100000 in
/-- It is full already. -/
theorem Put_full {B b : Nat} {v : Value} {l : List UInt8} {most : Int} {w : World} {A : Option Addr} {cap : Nat} (ss : List ByteArray) (h : OutIs B b v l most true w) (hm : 0 ≤ most ∧ most ≤ 20000) (hl : l.length ≤ most)
    (hs : Strs w A ss) (ha : 0 < ss.length → Apart A b v) (hsz : ss.length ≤ 9223372036854775807) :
    Calls Try.prog 8 #[.pointer (some ⟨b, 0, none⟩), .slice A ss.length cap] w fun e w' => e = .returned (.bool false) ∧ OutIs B b v l most true w' ∧ Kept (Its b v) w w' := by
  go_enter Try.func8, Try.ntmps8
  go_wp2_with fail
  refine (Left_any h hm hl).mono ?_
  rintro e w1 ⟨rfl, n1, rfl⟩
  simp only [if_true]
  go_wp2_with fail
  go_loopw [5, 14] (fun r k wr => ∃ k' : Nat, k' ≤ ss.length ∧ r = .int .i64 0 ∧ k = .int .i64 k' ∧ OutIs B b v l most true wr ∧ Kept (Its b v) w wr) (fun _ k _ => ss.length - (intOf k).toNat)
  case atStart => exact ⟨0, by omega, rfl, rfl, h.drewN _, (Kept.refl _ w).drewN _⟩
  case round =>
    obtain ⟨k', hk, rfl, rfl, hO, hK⟩ := hrel
    obtain ⟨c3, f3⟩ := hO.full
    by_cases hlt : k' < ss.length
    · have hsr := hs.kept hK (ha (by omega))
      obtain ⟨a, hA, hab, hc⟩ := hsr k' hlt
      subst hA
      go_wp2_with fail
      go_ret
      obtain ⟨q1, q2⟩ := hO.setFull true
      exact ⟨rfl, q1, hK.trans q2 (fun _ _ x => x)⟩
    · go_wp2_with fail
      go_ret
      exact ⟨rfl, hO, hK⟩

set_option maxHeartbeats 4000000 in
set_option maxRecDepth 100000 in
/-- Parts that don't all have room. -/
theorem Put_no {B b : Nat} {v : Value} {l : List UInt8} {most : Int} {w : World} {A : Option Addr} {cap : Nat} (ss : List ByteArray) (h : OutIs B b v l most false w) (hm : 0 ≤ most ∧ most ≤ 20000) (hl : l.length ≤ most)
    (hs : Strs w A ss) (ha : 0 < ss.length → Apart A b v) (hsz : ss.length ≤ 9223372036854775807) (hbig : ∀ s ∈ ss, s.size ≤ 9223372036854775807) (hfit : most < (l.length : Int) + total ss) :
    Calls Try.prog 8 #[.pointer (some ⟨b, 0, none⟩), .slice A ss.length cap] w fun e w' => e = .returned (.bool false) ∧ OutIs B b v l most true w' ∧ Kept (Its b v) w w' := by
  go_enter Try.func8, Try.ntmps8
  go_wp2_with fail
  refine (Left_any h hm hl).mono ?_
  rintro e w1 ⟨rfl, n1, rfl⟩
  simp only [Bool.false_eq_true, if_false]
  go_wp2_with fail
  go_loopw [5, 14] (fun r k wr => ∃ (R : Int) (k' : Nat), k' ≤ ss.length ∧ r = .int .i64 R ∧ k = .int .i64 k' ∧ 0 ≤ R ∧ R ≤ 20000 ∧ R < (total (ss.drop k') : Int) ∧ OutIs B b v l most false wr ∧ Kept (Its b v) w wr) (fun _ k _ => ss.length - (intOf k).toNat)
  case atStart => exact ⟨_, 0, by omega, rfl, rfl, by omega, by omega, by rw [List.drop_zero]; omega, h.drewN _, (Kept.refl _ w).drewN _⟩
  case round =>
    obtain ⟨R, k', hk, rfl, rfl, hR0, hR, ht, hO, hK⟩ := hrel
    by_cases hlt : k' < ss.length
    · have hsr := hs.kept hK (ha (by omega))
      obtain ⟨a, hA, hab, hc⟩ := hsr k' hlt
      subst hA
      have hsb := hbig (ss.getD k' ByteArray.empty) (by rw [List.getD_eq_getElem?_getD, List.getElem?_eq_getElem hlt]; exact List.getElem_mem hlt)
      rw [drop_cons ss k' hlt, total_cons] at ht
      obtain ⟨s, hse⟩ : ∃ s, ss.getD k' ByteArray.empty = s := ⟨_, rfl⟩
      rw [hse] at hc ht hsb
      clear hse
      obtain ⟨c3, f3⟩ := hO.full
      by_cases hz : R < (s.size : Int)
      · have hd : decide (R < (s.size : Int)) = true := by simpa using hz
        go_wp2_with fail
        go_ret
        obtain ⟨q1, q2⟩ := hO.setFull true
        exact ⟨rfl, q1, hK.trans q2 (fun _ _ x => x)⟩
      · go_wp2_with fail
        go_roundw
        case rel =>
          obtain ⟨q1, q2⟩ := hO.setFull (decide (R < (s.size : Int)))
          have hd : decide (R < (s.size : Int)) = false := by simp; omega
          rw [hd] at q1 q2
          exact ⟨R - s.size, k' + 1, by omega, rfl, by go_num, by omega, by omega, by omega, q1, hK.trans q2 (fun _ _ x => x)⟩
        case measure => simp [intOf]; omega
    · exfalso
      obtain rfl : k' = ss.length := by omega
      rw [List.drop_length] at ht
      simp [total] at ht
      omega

end Go.Proofs.Ytlgikhnemaebgaa
