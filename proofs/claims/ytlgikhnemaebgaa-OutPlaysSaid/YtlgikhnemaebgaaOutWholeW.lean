/- The walk of the law OutWhole. -/
import Derived.Test.YtlgikhnemaebgaaOutD
namespace Go.Proofs.Ytlgikhnemaebgaa
open Go.RowKit

theorem own_ne {B a b : Nat} {v u : Value} {l m : List UInt8} {r q : Int} {f g : Bool} {w : World} (h : OutIs B b v l r f w) (h' : OutIs B a u m q g w) : v.ownBlock ≠ some a := by
  obtain ⟨_, p, _, hb, _, _⟩ := h'
  obtain ⟨_, _, _, _, hown, _⟩ := h
  exact Lib.ownBlock_neF hown hb ne_types
theorem apart_old {B b : Nat} {v : Value} {l : List UInt8} {r : Int} {f : Bool} {w w' : World} {A : Option Addr} {ss : List ByteArray} (h : OutIs B b v l r f w) (hs : Strs w' A ss) (hB : w'.heap.size ≤ B) (hne : 0 < ss.length) : Apart A b v := by
  intro a ha hi
  obtain ⟨a', ha', hlt, _⟩ := hs 0 hne
  rw [ha] at ha'
  injection ha' with ha'
  subst ha'
  rcases hi with hi | hi
  · have := h.1; omega
  · have := (h.own _ hi).1; omega
theorem its_old {B b : Nat} {v : Value} {l : List UInt8} {r : Int} {f : Bool} {w : World} (h : OutIs B b v l r f w) : ∀ k, k < B → ¬ Its b v k := by
  intro k hk hi
  rcases hi with rfl | hi
  · have := h.1; omega
  · have := (h.own _ hi).1; omega
theorem total_le (ss : List ByteArray) (k : Nat) : total (ss.take k) ≤ total ss := by
  have e := total_append (ss.take k) (ss.drop k)
  rw [List.take_append_drop] at e; omega
theorem total_take_succ (ss : List ByteArray) (k : Nat) (h : k < ss.length) : total (ss.take (k + 1)) = total (ss.take k) + (ss.getD k ByteArray.empty).size := by
  rw [List.take_succ_eq_append_getElem h, total_append]
  simp [total, List.getD_eq_getElem?_getD, List.getElem?_eq_getElem h]

set_option maxHeartbeats 2000000 in
set_option maxRecDepth 100000 in
theorem Whole_walk (m : Nat) (A : Option Addr) (cap : Nat) (ss : List ByteArray) (w : World) (hm : m < 65536) (hss : Strs w A ss) (hsz : ss.length ≤ 9223372036854775807) (hbig : ∀ x ∈ ss, x.size ≤ 9223372036854775807) :
    Calls Try.prog 4 #[.int .u16 m, .slice A ss.length cap] w fun e w' => e = .returned (.bool true) ∧ Ext w w' := by
  by_cases hn : 10 < ss.length
  · go_enter Try.func4, Try.ntmps4
    go_wp2_with fail
    refine (known_any _).mono ?_
    rintro e w1 ⟨rfl, x1⟩
    go_wp2_with fail
    go_ret
    exact ⟨rfl, x1⟩
  · obtain ⟨R, hR⟩ : ∃ R : Nat, (m : Int) % 100 = (R : Int) := ⟨m % 100, by omega⟩
    have hR1 : R < 100 := by omega
    have hroom : roomOf R = R := by unfold roomOf; rw [if_neg (by omega), if_neg (by omega)]
    have NW := fun (B : Nat) (w : World) => New_any B (R : Int) w
    rw [hroom] at NW
    clear hroom
    go_enter Try.func4, Try.ntmps4
    go_wp2_with fail
    refine (known_any _).mono ?_
    rintro e w1 ⟨rfl, x1⟩
    go_wp2_with fail
    refine (NW w1.heap.size w1 (Nat.le_refl _)).mono ?_
    rintro e w2 ⟨rfl, a2, x2, z2⟩
    have Z2 := Lib.hid z2
    clear z2
    go_wp2_with fail
    refine (NW w1.heap.size w2 x2.size).mono ?_
    rintro e w3 ⟨rfl, b3, x3, z3⟩
    have Z3 := Lib.hid z3
    clear z3
    have a3 := a2.ext x3
    have hab : w1.heap.size < w2.heap.size := a2.lt
    go_wp2_with fail
    clear NW
    have y3 : Ext w w3 := x1.trans (x2.trans x3)
    have HR := Lib.hid hR
    clear hR
    go_loopw [7, 8] (fun all i wr => ∃ (i' : Nat) (v : Value) (l : List UInt8) (f : Bool), i' ≤ ss.length ∧ i = .int .i64 i' ∧ all = .bool (!f) ∧ OutIs w1.heap.size w1.heap.size (.slice none 0 0) [] R false wr ∧ OutIs w1.heap.size w2.heap.size v l R f wr ∧ Ext w1 wr ∧ l.length ≤ R ∧ (f = false → l = joined (ss.take i') ∧ total (ss.take i') ≤ R) ∧ (f = true → R < total (ss.take i'))) (fun _ i _ => ss.length - (intOf i).toNat)
    case atStart => exact ⟨0, .slice none 0 0, [], false, by omega, rfl, rfl, a3, b3, x2.trans x3, by simp, fun _ => ⟨by simp [joined], by simp [total]⟩, fun h => by cases h⟩
    case round =>
      obtain ⟨i', v, l, f, hi, rfl, rfl, ha, hb, hx, hlr, hf, ht⟩ := hrel
      have HF := Lib.hid hf
      have HT := Lib.hid ht
      clear hf ht
      have hx0 : Ext w wr := x1.trans hx
      by_cases hin : i' < ss.length
      · obtain ⟨a, hA, hab', hc⟩ := hss.ext hx0 i' hin
        subst hA
        have hts := total_take_succ ss i' hin
        have hjs := joined_take ss i' hin
        obtain ⟨s, hs⟩ : ∃ s, ss.getD i' ByteArray.empty = s := ⟨_, rfl⟩
        rw [hs] at hc hts hjs
        clear hs
        have HTS := Lib.hid hts
        have HJS := Lib.hid hjs
        clear hts hjs
        by_cases h100 : 100 < s.size
        · go_wp2_with fail
          go_ret
          exact ⟨rfl, hx0⟩
        · obtain ⟨ok, hok⟩ : ∃ ok, putOk f l R [s] = ok := ⟨_, rfl⟩
          obtain ⟨l', hl'⟩ : ∃ l', (if ok then l ++ joined [s] else l) = l' := ⟨_, rfl⟩
          have HOK := Lib.hid hok
          have HL := Lib.hid hl'
          clear hok hl'
          have b5 := hb.ext ((Ext.refl _).alloc (.cells #[.string s] 9))
          have a5 := ha.ext ((Ext.refl _).alloc (.cells #[.string s] 9))
          go_wp2_with fail
          refine (Put_any [s] rfl b5 (by omega) (by omega) (by have := hx.size; rw [World.size_alloc]; omega) (by exact strs_new wr [s]) (fun _ => apart_new hb) (by simp) (by simp; omega) ok HOK.out l' HL.out).mono ?_
          rintro e w6 ⟨rfl, v6, b6, k6, q6⟩
          have hx6 : Ext w1 w6 := k6.ext (hx.alloc _) (its_old hb)
          have a6 := a5.kept k6 (fun k hk hi => by
            rcases hk with rfl | hk
            · rcases hi with hi | hi
              · omega
              · exact own_ne hb ha hi
            · simp [Value.ownBlock] at hk)
          have hstep : Hid (l'.length ≤ R ∧ (!f && ok) = ok ∧ ((!ok) = false → l' = joined (ss.take (i' + 1)) ∧ total (ss.take (i' + 1)) ≤ R) ∧ ((!ok) = true → R < total (ss.take (i' + 1)))) := by
            unfold Hid
            rw [HTS.out, HJS.out]
            have h1 := HOK.out
            have h2 := HL.out
            have h3 := HF.out
            have h4 := HT.out
            unfold putOk at h1
            rw [total_cons] at h1
            have e0 : total ([] : List ByteArray) = 0 := rfl
            rw [e0] at h1
            cases f with
            | true =>
              simp only [Bool.not_true, Bool.false_and] at h1
              subst h1
              simp only [Bool.false_eq_true, if_false] at h2
              subst h2
              refine ⟨hlr, rfl, fun h => (by cases h), fun _ => ?_⟩
              have := h4 rfl; omega
            | false =>
              obtain ⟨h3a, h3b⟩ := h3 rfl
              simp only [Bool.not_false, Bool.true_and] at h1
              have hlen : l.length = total (ss.take i') := by rw [h3a, joined_length]
              cases ok with
              | true =>
                have h1' : (l.length : Int) + ((s.size + 0 : Nat) : Int) ≤ (R : Int) := by simpa using h1
                simp only [if_true] at h2
                subst h2
                refine ⟨?_, rfl, fun _ => ⟨by rw [h3a, joined_cons]; simp [joined], by omega⟩, fun h => by cases h⟩
                rw [List.length_append, joined_length, total_cons, e0]; omega
              | false =>
                have h1' : ¬ (l.length : Int) + ((s.size + 0 : Nat) : Int) ≤ (R : Int) := by simpa using h1
                simp only [Bool.false_eq_true, if_false] at h2
                subst h2
                exact ⟨hlr, rfl, fun h => (by cases h), fun _ => by omega⟩
          cases ok
          all_goals
            go_wp2_with fail
            go_roundw
            case rel =>
              have fin : ∃ (i2 : Nat) (v2 : Value) (l2 : List UInt8) (f2 : Bool), i2 ≤ ss.length ∧ (Value.int .i64 ((i' : Int) + 1)) = .int .i64 i2 ∧ _ = Value.bool (!f2) ∧ OutIs w1.heap.size w1.heap.size (.slice none 0 0) [] R false w6 ∧ OutIs w1.heap.size w2.heap.size v2 l2 R f2 w6 ∧ Ext w1 w6 ∧ l2.length ≤ R ∧ (f2 = false → l2 = joined (ss.take i2) ∧ total (ss.take i2) ≤ R) ∧ (f2 = true → R < total (ss.take i2)) :=
                ⟨i' + 1, v6, l', _, by omega, by go_num, rfl, a6, b6, hx6, hstep.out.1, hstep.out.2.2.1, hstep.out.2.2.2⟩
              have he := hstep.out.2.1
              cases f <;> first | (simp at he; done) | exact fin | ((repeat apply Exists.intro); exact ⟨fin, rfl⟩)
            case measure => simp [intOf]; omega
      · obtain rfl : i' = ss.length := by omega
        rw [List.take_length] at HF HT
        clear hin hi
        go_wp2_with fail
        have hsr := hss.ext hx0
        have haA : 0 < ss.length → Apart A w1.heap.size (.slice none 0 0) := fun h => apart_old ha hss x1.size h
        cases f with
        | false =>
          obtain ⟨hl, ht⟩ := HF.out rfl
          have HL := Lib.hid hl
          clear hl
          refine (Put_any ss rfl ha (by omega) (by simp) hx.size hsr haA hsz hbig true (by simp [putOk]; exact ht) (joined ss) (by simp)).mono ?_
          rintro e w6 ⟨rfl, v6, a6, k6, q6⟩
          have hx6 : Ext w1 w6 := k6.ext hx (its_old ha)
          have b6 := hb.kept k6 (fun k hk hi => by
            rcases hi with rfl | hi
            · rcases hk with hk | hk
              · omega
              · exact own_ne hb ha hk
            · simp [Value.ownBlock] at hi)
          rw [HL.out] at b6
          have hjl := joined_length ss
          go_wp2_with fail
          refine (Text_any a6).mono ?_
          rintro e w7 ⟨rfl, a7, k7⟩
          have hx7 : Ext w1 w7 := k7.ext hx6 (its_old a6)
          have b7 := b6.kept k7 (fun k hk hi => by
            rcases hi with rfl | hi
            · rcases hk with hk | hk
              · omega
              · exact own_ne b6 a6 hk
            · rcases q6 with q6 | q6
              · rw [q6] at hi; simp [Value.ownBlock] at hi
              · have h1 := q6 k hi
                rcases hk with rfl | hk
                · have := hb.lt; omega
                · have := (hb.own k hk).2; omega)
          go_wp2_with fail
          refine (Text_any b7).mono ?_
          rintro e w8 ⟨rfl, b8, k8⟩
          have hx8 : Ext w1 w8 := k8.ext hx7 (its_old b7)
          have a8 := a7.kept k8 (fun k hk hi => by
            rcases hk with rfl | hk
            · rcases hi with hi | hi
              · omega
              · exact own_ne b7 a7 hi
            · rcases q6 with q6 | q6
              · rw [q6] at hk; simp [Value.ownBlock] at hk
              · have h1 := q6 k hk
                rcases hi with rfl | hi
                · have := hb.lt; omega
                · have := (hb.own k hi).2; omega)
          go_wp2_with fail
          refine (Left_any a8 (by omega) (by omega)).mono ?_
          rintro e w9 ⟨rfl, n9, rfl⟩
          go_wp2_with fail
          refine (Left_any (b8.drewN n9) (by omega) (by omega)).mono ?_
          rintro e w10 ⟨rfl, n10, rfl⟩
          go_wp2_with fail
          go_ret
          exact ⟨rfl, x1.trans (hx8.drewN _)⟩
        | true =>
          have ht := HT.out rfl
          refine (Put_any ss rfl ha (by omega) (by simp) hx.size hsr haA hsz hbig false (by simp [putOk]; omega) [] (by simp)).mono ?_
          rintro e w6 ⟨rfl, v6, a6, k6, q6⟩
          have hx6 : Ext w1 w6 := k6.ext hx (its_old ha)
          have b6 := hb.kept k6 (fun k hk hi => by
            rcases hi with rfl | hi
            · rcases hk with hk | hk
              · omega
              · exact own_ne hb ha hk
            · simp [Value.ownBlock] at hi)
          go_wp2_with fail
          refine (Text_any a6).mono ?_
          rintro e w7 ⟨rfl, a7, k7⟩
          have hx7 : Ext w1 w7 := k7.ext hx6 (its_old a6)
          have b7 := b6.kept k7 (fun k hk hi => by
            rcases hi with rfl | hi
            · rcases hk with hk | hk
              · omega
              · exact own_ne b6 a6 hk
            · rcases q6 with q6 | q6
              · rw [q6] at hi; simp [Value.ownBlock] at hi
              · have h1 := q6 k hi
                rcases hk with rfl | hk
                · have := hb.lt; omega
                · have := (hb.own k hk).2; omega)
          go_wp2_with fail
          refine (Full_any a7).mono ?_
          rintro e w8 ⟨rfl, rfl⟩
          go_wp2_with fail
          refine (Full_any b7).mono ?_
          rintro e w9 ⟨rfl, rfl⟩
          go_wp2_with fail
          go_ret
          exact ⟨rfl, x1.trans hx7⟩

theorem Whole_any (m : Int) (A : Option Addr) (cap : Nat) (ss : List ByteArray) (w : World) (h : 0 ≤ m ∧ m ≤ 65535) (hss : Strs w A ss) (hsz : ss.length ≤ 9223372036854775807) (hbig : ∀ x ∈ ss, x.size ≤ 9223372036854775807) :
    Calls Try.prog 4 #[.int .u16 m, .slice A ss.length cap] w fun e w' => e = .returned (.bool true) ∧ Ext w w' := by
  obtain ⟨n, rfl⟩ := Int.eq_ofNat_of_zero_le h.1
  exact Whole_walk n A cap ss w (by omega) hss hsz hbig
end Go.Proofs.Ytlgikhnemaebgaa
