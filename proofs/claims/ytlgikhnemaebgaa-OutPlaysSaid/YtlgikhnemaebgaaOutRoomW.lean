/- The walk of the law OutRoom. -/
import Derived.Test.YtlgikhnemaebgaaOutD
import Derived.Test.YtlgikhnemaebgaaConv
namespace Go.Proofs.Ytlgikhnemaebgaa
open Go.RowKit

/-- So many noughts. -/
def zeros (n : Nat) : Array Value := ((List.replicate n (0 : Int)).map (Value.int .u8)).toArray
def zstr (n : Nat) : ByteArray := strOfNums (List.replicate n 0)
theorem zstr_size (n : Nat) : (zstr n).size = n := by rw [zstr, strOfNums_size, List.length_replicate]

theorem mk_zeros (n : Nat) (hn : n ≤ 1000000) (w : World) : (Instr.makeSlice 33 (.int .i64 (n : Int)) (.int .i64 (n : Int))).run Try.prog w = .ok (.slice (some ⟨w.heap.size, 0, none⟩) n n) (w.alloc (.cells (zeros n) 5)) := by
  obtain ⟨i0, hi, hz0, hz1, hz2⟩ := info_parts infoByte
  have h := run_make (P := Try.prog) w 33 5 i0 (.int .u8 0) Try.underlying33 hi hz0 .i64 .i64 n n (by omega) (by omega) (by rw [hz2]; omega) (by omega)
  rw [h]
  have e : madeCells (Value.int IntKind.u8 0).cells ((n : Int).toNat * i0.size) = zeros n := by
    rw [hz1]
    apply Array.ext
    · simp [zeros, size_madeCells]
    · intro j h1 h2
      simp [zeros, madeCells, Value.cells, Nat.mod_one]
  rw [e]; rfl
theorem conv_zeros (n : Nat) (g c : Nat) (w : World) (hg : w.heap[g]? = some (.cells (zeros n) 5 (0, 0))) :
    (convert 33 9 (.slice (some ⟨g, 0, none⟩) n c)).run Try.prog w = .ok (.string (zstr n)) w := by
  refine run_convert_bytes_arg w _ _ under_bytes under_byte g 0 n c _ List.length_replicate ?_ _ under_string
  intro i hi
  rw [Lib.cell_of_heap hg]
  simp [zeros, hi]

theorem max_at (most M : Int) (h : (if (0 : Int) > most then 0 else most) = M) (ts : Array TypeId) (t : TypeId) (w : World) : (Builtin.max_ ts t #[.int .i64 most, .int .i64 0]).run Try.prog w = .ok (.int .i64 M) w := by rw [run_max_int2, h]
theorem min_at (M R : Int) (h : (if (20000 : Int) < M then 20000 else M) = R) (ts : Array TypeId) (t : TypeId) (w : World) : (Builtin.min_ ts t #[.int .i64 M, .int .i64 20000]).run Try.prog w = .ok (.int .i64 R) w := by rw [run_min_int2, h]
theorem room_of (most : Int) : ∃ M : Int, (if (0 : Int) > most then 0 else most) = M ∧ (if (20000 : Int) < M then 20000 else M) = roomOf most := by
  refine ⟨_, rfl, ?_⟩
  unfold roomOf
  (repeat' split) <;> omega

theorem Left_at {B b : Nat} {v : Value} {l : List UInt8} {most : Int} {full : Bool} {w : World} (h : OutIs B b v l most full w) (hm : 0 ≤ most ∧ most ≤ 20000) (hl : l.length ≤ most) (x : Int) (hx : (if full then 0 else most - l.length) = x) :
    Calls Try.prog 11 #[.pointer (some ⟨b, 0, none⟩)] w fun e w' => e = .returned (.int .i64 x) ∧ ∃ n, w' = w.drewN n := by
  subst hx; exact Left_any h hm hl
theorem OLen_at {B b : Nat} {v : Value} {l : List UInt8} {most : Int} {full : Bool} {w : World} (h : OutIs B b v l most full w) (x : Int) (hx : (l.length : Int) = x) :
    Calls Try.prog 10 #[.pointer (some ⟨b, 0, none⟩)] w fun e w' => e = .returned (.int .i64 x) ∧ w = w' := by
  subst hx; exact OLen_any h

set_option maxHeartbeats 1000000 in
set_option maxRecDepth 100000 in
theorem Room_walk (most : Int) (step : Nat) (w : World) (hst : step < 256) :
    Calls Try.prog 5 #[.int .i64 most, .int .u8 step] w fun e w' => e = .returned (.bool true) ∧ Ext w w' := by
  have hr := roomOf_range most
  obtain ⟨room, hroom⟩ : ∃ r, roomOf most = r := ⟨_, rfl⟩
  rw [hroom] at hr
  obtain ⟨M, hM1, hM2⟩ := room_of most
  rw [hroom] at hM2
  have hmx := max_at most M hM1
  have hmn := min_at M room hM2
  clear hM1 hM2
  obtain ⟨N, hN⟩ : ∃ N : Nat, ((step : Int) % 97 + 200) = (N : Int) := ⟨step % 97 + 200, by omega⟩
  have hN1 : 200 ≤ N := by omega
  have hN2 : N ≤ 296 := by omega
  have hmk := mk_zeros N (by omega)
  have HR := Lib.hid hroom
  clear hroom
  go_enter Try.func5, Try.ntmps5
  go_wp2_with fail
  refine (known_any _).mono ?_
  rintro e w1 ⟨rfl, x1⟩
  go_wp2_with fail
  refine (New_any w1.heap.size most w1 (Nat.le_refl _)).mono ?_
  rintro e w2 ⟨rfl, o2, x2, z2⟩
  have Z2 := Lib.hid z2
  clear z2
  go_wp2_with fail
  clear hmk hmx hmn
  have HN := Lib.hid hN
  clear hN
  have hpb : Hid ((w2.alloc (.cells (zeros N) 5)).heap[w2.heap.size]? = some (.cells (zeros N) 5 (0, 0))) := heap_alloc_new w2 _
  have y2 : Ext w1 (w2.alloc (.cells (zeros N) 5)) := x2.alloc _
  have o3 := o2.ext ((Ext.refl _).alloc (.cells (zeros N) 5))
  have hlt2 := o2.lt
  rw [HR.out] at o3
  go_loopw [9, 10] (fun p i wr => ∃ (k q : Nat) (v : Value) (l : List UInt8), k ≤ 120 ∧ i = .int .i64 k ∧ p = .int .i64 (q : Int) ∧ Hid (l.length = q) ∧ 200 * k ≤ q ∧ (q : Int) ≤ room ∧ OutIs w1.heap.size w1.heap.size v l room false wr ∧ wr.heap[w2.heap.size]? = some (.cells (zeros N) 5 (0, 0)) ∧ (∀ j, v.ownBlock = some j → w2.heap.size < j) ∧ Ext w1 wr) (fun _ i _ => 121 - (intOf i).toNat)
  case atStart => exact ⟨0, 0, .slice none 0 0, [], by omega, rfl, rfl, rfl, by omega, by omega, o3, hpb.out, fun j hj => by simp [Value.ownBlock] at hj, y2⟩
  case round =>
    obtain ⟨k, q, v, l, hk, rfl, rfl, hl, hkq, hlr, hO, hz, hown, hx⟩ := hrel
    have notits : ∀ (v : Value) (l : List UInt8) (f : Bool) (w' : World), OutIs w1.heap.size w1.heap.size v l room f w' → ∀ j, j < w1.heap.size → ¬ Its w1.heap.size v j := by
      intro v l f w' h j hj hi
      rcases hi with rfl | hi
      · omega
      · have := (h.own _ hi).1; omega
    by_cases hfit : (q : Int) + N ≤ room
    · have hlt : k < 120 := by omega
      have hcv := conv_zeros N w2.heap.size N wr hz
      have HZ := Lib.hid hz
      clear hz
      go_wp2_with fail
      refine (Put_any [zstr N] rfl (hO.ext ((Ext.refl _).alloc _)) hr (by rw [hl.out]; exact hlr) (by have := hx.size; rw [World.size_alloc]; omega) (by exact strs_new wr [zstr N]) (fun _ => apart_new hO) (by simp) (by simp [zstr_size]; omega) true (by simp [putOk, total, zstr_size, hl.out]; omega) _ (if_pos rfl)).mono ?_
      rintro e w5 ⟨rfl, v5, o5, k5, q5⟩
      clear hcv
      go_wp2_with fail
      go_roundw
      case rel =>
        have hzlt : w2.heap.size < wr.heap.size := by
          rcases Nat.lt_or_ge w2.heap.size wr.heap.size with h | h
          · exact h
          · have := HZ.out; rw [Array.getElem?_eq_none h] at this; cases this
        refine ⟨k + 1, q + N, v5, _, by omega, by go_num, vI (by omega), ?_, by omega, by omega, o5, ?_, ?_, k5.ext (hx.alloc _) (notits _ _ _ _ hO)⟩
        · unfold Hid
          rw [List.length_append, joined_length, hl.out, total_cons, zstr_size]
          rfl
        · rw [k5.block _ (by rw [World.size_alloc]; omega) (fun hi => by
            rcases hi with hi | hi
            · omega
            · have := hown _ hi; omega)]
          rw [Below.heap_alloc _ _ _ hzlt]; exact HZ.out
        · intro j hj
          rcases q5 with q5 | q5
          · rw [q5] at hj; exact hown j hj
          · have := q5 j hj; rw [World.size_alloc] at this; omega
      case measure => simp [intOf]; omega
    · obtain ⟨L, hL⟩ : ∃ L : Nat, room - (q : Int) = (L : Int) := ⟨(room - q).toNat, by omega⟩
      have hL1 : L < N := by omega
      have hmk2 := mk_zeros L (by omega)
      have hcv' : ∀ (w' : World) (j : Nat), (convert 33 9 (.slice (some ⟨w'.heap.size, 0, none⟩) L L)).run Try.prog ((w'.drewN j).alloc (.cells (zeros L) 5)) = .ok (.string (zstr L)) ((w'.drewN j).alloc (.cells (zeros L) 5)) := fun w' j => conv_zeros L w'.heap.size L _ (heap_alloc_new (w'.drewN j) _)
      clear hz hown
      have hlr' : room = q + L := by omega
      have HR' := Lib.hid hlr'
      clear hlr'
      go_wp2_with fail
      have hl' : (l.length : Int) ≤ room := by rw [hl.out]; exact hlr
      refine (Left_at hO hr hl' L (by rw [if_neg (by simp), hl.out]; exact hL)).mono ?_
      rintro e w5 ⟨rfl, n5, rfl⟩
      have hO5 := hO.drewN n5
      have hx5 := hx.drewN n5
      go_wp2_with fail
      have oa := hO5.ext (((Ext.refl _).alloc (.cells (zeros L) 5)).alloc (.cells #[.string (zstr L)] 9))
      have sA : Strs (((wr.drewN n5).alloc (.cells (zeros L) 5)).alloc (.cells #[.string (zstr L)] 9)) (some ⟨wr.heap.size + 1, 0, none⟩) [zstr L] := by
        have h := strs_new ((wr.drewN n5).alloc (.cells (zeros L) 5)) [zstr L]
        rw [World.size_alloc] at h
        exact h
      have aA : Apart (some ⟨wr.heap.size + 1, 0, none⟩) w1.heap.size v := by
        have h := apart_new (hO5.ext ((Ext.refl _).alloc (.cells (zeros L) 5)))
        rw [World.size_alloc] at h
        exact h
      refine (Put_any [zstr L] rfl oa hr hl' (by have := hx5.size; rw [World.size_alloc, World.size_alloc]; omega) sA (fun _ => aA) (by simp) (by simp [zstr_size]; omega) true (by simp [putOk, total, zstr_size, hl.out]; omega) _ (if_pos rfl)).mono ?_
      rintro e w6 ⟨rfl, v6, o6, k6, q6⟩
      have hx6 : Ext w1 w6 := k6.ext ((hx5.alloc _).alloc _) (notits _ _ _ _ hO5)
      have hlen6 : ((l ++ joined [zstr L]).length : Int) = room := by
        rw [List.length_append, joined_length, hl.out, total_cons, zstr_size]
        simp [total]; omega
      clear hcv' hmk2
      go_wp2_with fail
      refine (OLen_at o6 room hlen6).mono ?_
      rintro e w7 ⟨rfl, rfl⟩
      go_wp2_with fail
      refine (Left_at o6 hr (by omega) 0 (by rw [hlen6]; simp)).mono ?_
      rintro e w8 ⟨rfl, n8, rfl⟩
      go_wp2_with fail
      refine (Full_any (o6.drewN n8)).mono ?_
      rintro e w9 ⟨rfl, rfl⟩
      go_wp2_with fail
      have o9 := (o6.drewN n8).ext ((Ext.refl _).alloc (.cells #[.string ⟨#[120]⟩] 9))
      have sB : Strs ((w6.drewN n8).alloc (.cells #[.string ⟨#[120]⟩] 9)) (some ⟨w6.heap.size, 0, none⟩) [⟨#[120]⟩] := strs_new (w6.drewN n8) [⟨#[120]⟩]
      have aB : Apart (some ⟨w6.heap.size, 0, none⟩) w1.heap.size v6 := apart_new o6
      have hno : putOk (!true) (l ++ joined [zstr L]) room [⟨#[120]⟩] = false := by
        unfold putOk
        rw [hlen6, decide_eq_false (by have : total [⟨#[120]⟩] = 1 := rfl; omega)]
        rfl
      refine (Put_any [⟨#[120]⟩] rfl o9 hr (by omega) (by have := (hx6.drewN n8).size; rw [World.size_alloc]; omega) sB (fun _ => aB) (by simp) (by simp; decide) false hno _ (if_neg (by simp))).mono ?_
      rintro e w10 ⟨rfl, v10, o10, k10, q10⟩
      have hx10 : Ext w1 w10 := k10.ext ((hx6.drewN n8).alloc _) (notits _ _ _ _ o6)
      simp only [Bool.not_false] at o10
      go_wp2_with fail
      refine (Full_any o10).mono ?_
      rintro e w11 ⟨rfl, rfl⟩
      go_wp2_with fail
      refine (OLen_at o10 room hlen6).mono ?_
      rintro e w12 ⟨rfl, rfl⟩
      go_wp2_with fail
      refine (Put_any [] rfl o10 hr (by omega) (by have := hx10.size; exact this) (strs_none _ _) (fun _ => apart_none _ _) (by simp) (by simp) false (by simp [putOk]) _ (if_neg (by simp))).mono ?_
      rintro e w13 ⟨rfl, v13, o13, k13, q13⟩
      go_wp2_with fail
      go_ret
      exact ⟨rfl, x1.trans (k13.ext hx10 (notits _ _ _ _ o10))⟩

theorem Room_any (most step : Int) (w : World) (h : 0 ≤ step ∧ step ≤ 255) :
    Calls Try.prog 5 #[.int .i64 most, .int .u8 step] w fun e w' => e = .returned (.bool true) ∧ Ext w w' := by
  obtain ⟨n, rfl⟩ := Int.eq_ofNat_of_zero_le h.1
  exact Room_walk most n w (by omega)
end Go.Proofs.Ytlgikhnemaebgaa
