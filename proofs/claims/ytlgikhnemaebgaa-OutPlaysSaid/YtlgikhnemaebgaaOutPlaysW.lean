/- The walk of the law OutPlays. -/
import Derived.Test.YtlgikhnemaebgaaOutRoomW
import Derived.Test.YtlgikhnemaebgaaOutWholeW
import Derived.Test.YtlgikhnemaebgaaStrRows
namespace Go.Proofs.Ytlgikhnemaebgaa
open Go.RowKit

/-- Bytes as a string. -/
def mkS (l : List UInt8) : ByteArray := ⟨l.toArray⟩
theorem mkS_size (l : List UInt8) : (mkS l).size = l.length := by simp [mkS, ByteArray.size]
theorem mkS_append (l : List UInt8) (s : ByteArray) : mkS l ++ s = mkS (l ++ s.data.toList) := by
  apply ByteArray.ext
  simp [mkS]
theorem mkS_mkS (l m : List UInt8) : mkS l ++ mkS m = mkS (l ++ m) := by rw [mkS_append]; rfl

theorem Text_mk {B b : Nat} {v : Value} {l : List UInt8} {most : Int} {full : Bool} {w : World} (h : OutIs B b v l most full w) :
    Calls Try.prog 9 #[.pointer (some ⟨b, 0, none⟩)] w fun e w' => e = .returned (.string (mkS l)) ∧ OutIs B b v l most full w' ∧ Kept (Its b v) w w' := Text_any h

set_option maxHeartbeats 2000000 in
set_option maxRecDepth 100000 in
theorem Plays_walk (most : Int) (A : Option Addr) (cap : Nat) (rs : List SRow) (w : World) (hrs : StrRows w A rs) (hsz : rs.length ≤ 9223372036854775807) :
    Calls Try.prog 3 #[.int .i64 most, .slice A rs.length cap] w fun e w' => e = .returned (.bool true) ∧ Ext w w' := by
  by_cases hn : 30 < rs.length
  · go_enter Try.func3, Try.ntmps3
    go_wp2_with fail
    refine (known_any _).mono ?_
    rintro e w1 ⟨rfl, x1⟩
    go_wp2_with fail
    go_ret
    exact ⟨rfl, x1⟩
  · have hr := roomOf_range most
    obtain ⟨room, hroom⟩ : ∃ r, roomOf most = r := ⟨_, rfl⟩
    rw [hroom] at hr
    obtain ⟨M, hM1, hM2⟩ := room_of most
    rw [hroom] at hM2
    have hmx := max_at most M hM1
    have hmn := min_at M room hM2
    have NW := fun (B : Nat) (w : World) => New_any B most w
    rw [hroom] at NW
    clear hM1 hM2 hroom
    go_enter Try.func3, Try.ntmps3
    go_wp2_with fail
    refine (known_any _).mono ?_
    rintro e w1 ⟨rfl, x1⟩
    go_wp2_with fail
    refine (NW w1.heap.size w1 (Nat.le_refl _)).mono ?_
    rintro e w2 ⟨rfl, o2, x2, _⟩
    go_wp2_with fail
    clear hmx hmn NW
    go_loopw [7, 8, 9] (fun t f i wr => ∃ (i' : Nat) (v : Value) (l : List UInt8) (f' : Bool), i' ≤ rs.length ∧ i = .int .i64 i' ∧ t = .string (mkS l) ∧ f = .bool f' ∧ OutIs w1.heap.size w1.heap.size v l room f' wr ∧ Ext w1 wr ∧ (l.length : Int) ≤ room) (fun _ _ i _ => rs.length - (intOf i).toNat)
    case atStart => exact ⟨0, .slice none 0 0, [], false, by omega, rfl, rfl, rfl, o2, x2, by simp; omega⟩
    case round =>
      obtain ⟨i', v, l, f, hi, rfl, rfl, rfl, hO, hx, hl⟩ := hrel
      have hx0 : Ext w wr := x1.trans hx
      by_cases hin : i' < rs.length
      · have hok0 : (rs.getD i' default).ok w := by
          obtain ⟨a0, hA0, hb0, hc0, h⟩ := hrs i' hin
          exact h
        obtain ⟨a, hA, hab, hc, hok⟩ := hrs.ext hx0 i' hin
        subst hA
        obtain ⟨r, hr'⟩ : ∃ r, rs.getD i' default = r := ⟨_, rfl⟩
        rw [hr'] at hc hok hok0
        clear hr'
        obtain ⟨A2, c2, ss⟩ := r
        obtain ⟨hs2, hz2, hg2⟩ := hok
        have HS0 : Hid (Strs w A2 ss) := hok0.1
        clear hok0
        simp only at hs2 hz2 hg2
        unfold SRow.val at hc
        simp only at hc
        by_cases h10 : 10 < ss.length
        · go_wp2_with fail
          go_ret
          exact ⟨rfl, hx0⟩
        · go_wp2_with fail
          go_loop [10, 11] (fun s k => ∃ k' : Nat, k' ≤ ss.length ∧ s = .string (mkS (joined (ss.take k'))) ∧ k = .int .i64 k' ∧ total (ss.take k') ≤ 200 * k') (fun _ k => ss.length - (intOf k).toNat)
          case atStart => exact ⟨0, by omega, rfl, rfl, by simp [total]⟩
          case round =>
            obtain ⟨k', hk, rfl, rfl, ht⟩ := hrel
            by_cases hlt : k' < ss.length
            · obtain ⟨a2, hA2, hab2, hc2⟩ := hs2 k' hlt
              subst hA2
              have hjl := joined_length (ss.take k')
              have hzs := mkS_size (joined (ss.take k'))
              have hma := mkS_append (joined (ss.take k')) (ss.getD k' ByteArray.empty)
              have hts := total_take_succ ss k' hlt
              rw [← joined_take ss k' hlt] at hma
              obtain ⟨s, hs⟩ : ∃ s, ss.getD k' ByteArray.empty = s := ⟨_, rfl⟩
              rw [hs] at hc2 hma hts
              clear hs
              have HM := Lib.hid hma
              have HT := Lib.hid hts
              clear hma hts
              have hzb : (mkS (joined (ss.take k'))).size ≤ 2000 := by omega
              clear hjl hzs
              by_cases h200 : 200 < s.size
              · go_wp2_with fail
                go_ret
                exact ⟨rfl, hx0⟩
              · go_wp2_with fail
                go_round
                case rel => exact ⟨k' + 1, by omega, by rw [HM.out], by go_num, by rw [HT.out]; omega⟩
                case measure => simp [intOf]; omega
            · obtain rfl : k' = ss.length := by omega
              rw [List.take_length] at ht ⊢
              clear hlt hk
              have hz3 := mkS_size l
              have hz4 : (mkS (joined ss)).size = total ss := by rw [mkS_size, joined_length]
              have htl : total ss ≤ 2000 := by omega
              have hs2w : Hid (∀ a, A2 = some a → 0 < ss.length → a.block < w.heap.size) := by
                intro a3 ha3 hp3
                obtain ⟨a4, ha4, hb4, _⟩ := HS0.out 0 hp3
                rw [ha3] at ha4; injection ha4 with ha4; rw [ha4]; exact hb4
              cases f with
              | true =>
                have HOK : Hid (putOk true l room ss = false) := rfl
                have HL2 : Hid ((if (false : Bool) then l ++ joined ss else l) = l) := rfl
                have HLE := Lib.hid hl
                clear hz4
                go_wp2_with fail
                refine (Put_any ss rfl hO hr hl hx.size hs2 (fun h a3 ha3 hi3 => its_old hO _ (Nat.lt_of_lt_of_le (hs2w.out a3 ha3 h) x1.size) hi3) hz2 hg2 false HOK.out l HL2.out).mono ?_
                rintro e w6 ⟨rfl, v6, o6, k6, q6⟩
                have hx6 : Ext w1 w6 := k6.ext hx (its_old hO)
                go_wp2_with fail
                refine (Text_mk o6).mono ?_
                rintro e w7 ⟨rfl, o7, k7⟩
                have hx7 : Ext w1 w7 := k7.ext hx6 (its_old o6)
                go_wp2_with fail
                refine (OLen_any o7).mono ?_
                rintro e w8 ⟨rfl, rfl⟩
                go_wp2_with fail
                refine (Left_at o7 hr HLE.out 0 (by simp)).mono ?_
                rintro e w9 ⟨rfl, n9, rfl⟩
                go_wp2_with fail
                refine (Full_any (o7.drewN n9)).mono ?_
                rintro e w10 ⟨rfl, rfl⟩
                go_wp2_with fail
                go_roundw
                case rel =>
                  have fin : ∃ (i2 : Nat) (v2 : Value) (l9 : List UInt8) (f2 : Bool), i2 ≤ rs.length ∧ (Value.int .i64 ((i' : Int) + 1)) = .int .i64 i2 ∧ Value.string (mkS l) = .string (mkS l9) ∧ Value.bool true = .bool f2 ∧ OutIs w1.heap.size w1.heap.size v2 l9 room f2 (w7.drewN n9) ∧ Ext w1 (w7.drewN n9) ∧ (l9.length : Int) ≤ room :=
                    ⟨i' + 1, v6, l, true, by omega, by go_num, rfl, rfl, o7.drewN n9, hx7.drewN n9, HLE.out⟩
                  first | exact fin | ((repeat apply Exists.intro); exact ⟨fin, rfl⟩)
                case measure => simp [intOf]; omega
              | false =>
                by_cases hfit : (l.length : Int) + total ss ≤ room
                · have HOK : Hid (putOk false l room ss = true) := by simp [Hid, putOk, hfit]
                  obtain ⟨l2, hl2⟩ : ∃ l2, l ++ joined ss = l2 := ⟨_, rfl⟩
                  have HL2 : Hid ((if (true : Bool) then l ++ joined ss else l) = l2) := by simpa [Hid] using hl2
                  have hm := mkS_mkS l (joined ss)
                  have hz5 := mkS_size l2
                  have HLE : Hid ((l2.length : Int) ≤ room) := by unfold Hid; rw [← hl2, List.length_append, joined_length]; omega
                  rw [hl2] at hm
                  have hle := HLE.out
                  clear hl2
                  go_wp2_with fail
                  refine (Put_any ss rfl hO hr hl hx.size hs2 (fun h a3 ha3 hi3 => its_old hO _ (Nat.lt_of_lt_of_le (hs2w.out a3 ha3 h) x1.size) hi3) hz2 hg2 true HOK.out l2 HL2.out).mono ?_
                  rintro e w6 ⟨rfl, v6, o6, k6, q6⟩
                  have hx6 : Ext w1 w6 := k6.ext hx (its_old hO)
                  go_wp2_with fail
                  refine (Text_mk o6).mono ?_
                  rintro e w7 ⟨rfl, o7, k7⟩
                  have hx7 : Ext w1 w7 := k7.ext hx6 (its_old o6)
                  go_wp2_with fail
                  refine (OLen_any o7).mono ?_
                  rintro e w8 ⟨rfl, rfl⟩
                  go_wp2_with fail
                  refine (Left_at o7 hr HLE.out (room - l2.length) (by simp)).mono ?_
                  rintro e w9 ⟨rfl, n9, rfl⟩
                  go_wp2_with fail
                  refine (Full_any (o7.drewN n9)).mono ?_
                  rintro e w10 ⟨rfl, rfl⟩
                  go_wp2_with fail
                  go_roundw
                  case rel =>
                    have fin : ∃ (i2 : Nat) (v2 : Value) (l9 : List UInt8) (f2 : Bool), i2 ≤ rs.length ∧ (Value.int .i64 ((i' : Int) + 1)) = .int .i64 i2 ∧ Value.string (mkS l2) = .string (mkS l9) ∧ Value.bool false = .bool f2 ∧ OutIs w1.heap.size w1.heap.size v2 l9 room f2 (w7.drewN n9) ∧ Ext w1 (w7.drewN n9) ∧ (l9.length : Int) ≤ room :=
                      ⟨i' + 1, v6, l2, false, by omega, by go_num, rfl, rfl, o7.drewN n9, hx7.drewN n9, HLE.out⟩
                    first | exact fin | ((repeat apply Exists.intro); exact ⟨fin, rfl⟩)
                  case measure => simp [intOf]; omega
                · have HOK : Hid (putOk false l room ss = false) := by simp [Hid, putOk]; omega
                  have HL2 : Hid ((if (false : Bool) then l ++ joined ss else l) = l) := rfl
                  have HLE := Lib.hid hl
                  go_wp2_with fail
                  refine (Put_any ss rfl hO hr hl hx.size hs2 (fun h a3 ha3 hi3 => its_old hO _ (Nat.lt_of_lt_of_le (hs2w.out a3 ha3 h) x1.size) hi3) hz2 hg2 false HOK.out l HL2.out).mono ?_
                  rintro e w6 ⟨rfl, v6, o6, k6, q6⟩
                  have hx6 : Ext w1 w6 := k6.ext hx (its_old hO)
                  go_wp2_with fail
                  refine (Text_mk o6).mono ?_
                  rintro e w7 ⟨rfl, o7, k7⟩
                  have hx7 : Ext w1 w7 := k7.ext hx6 (its_old o6)
                  go_wp2_with fail
                  refine (OLen_any o7).mono ?_
                  rintro e w8 ⟨rfl, rfl⟩
                  go_wp2_with fail
                  refine (Left_at o7 hr HLE.out 0 (by simp)).mono ?_
                  rintro e w9 ⟨rfl, n9, rfl⟩
                  go_wp2_with fail
                  refine (Full_any (o7.drewN n9)).mono ?_
                  rintro e w10 ⟨rfl, rfl⟩
                  go_wp2_with fail
                  go_roundw
                  case rel =>
                    have fin : ∃ (i2 : Nat) (v2 : Value) (l9 : List UInt8) (f2 : Bool), i2 ≤ rs.length ∧ (Value.int .i64 ((i' : Int) + 1)) = .int .i64 i2 ∧ Value.string (mkS l) = .string (mkS l9) ∧ Value.bool true = .bool f2 ∧ OutIs w1.heap.size w1.heap.size v2 l9 room f2 (w7.drewN n9) ∧ Ext w1 (w7.drewN n9) ∧ (l9.length : Int) ≤ room :=
                      ⟨i' + 1, v6, l, true, by omega, by go_num, rfl, rfl, o7.drewN n9, hx7.drewN n9, HLE.out⟩
                    first | exact fin | ((repeat apply Exists.intro); exact ⟨fin, rfl⟩)
                  case measure => simp [intOf]; omega
      · go_wp2_with fail
        go_ret
        exact ⟨rfl, hx0⟩
end Go.Proofs.Ytlgikhnemaebgaa
