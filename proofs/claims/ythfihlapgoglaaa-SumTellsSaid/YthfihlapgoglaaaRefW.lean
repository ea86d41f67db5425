/- The walk of the document's plus. -/
import Derived.Test.YthfihlapgoglaaaRefV
namespace Go.Proofs.Ythfihlapgoglaaa
open Go.RowKit

theorem max_nat (a b : Nat) (ts : Array TypeId) (t : TypeId) (w : World) : (Builtin.max_ ts t #[.int .i64 (a : Int), .int .i64 (b : Int)]).run Try.prog w = .ok (.int .i64 ((max a b : Nat) : Int)) w := by
  rw [run_max_int2]
  congr 2
  split <;> omega

set_option maxHeartbeats 8000000 in
set_option maxRecDepth 100000 in
theorem plus_dig (v u : Value) (l m : List Nat) (w : World) (hv : DigV v l w) (hu : DigV u m w) (hl : l.length < 1000) (hm : m.length < 1000) (dl : ∀ d ∈ l, d < 10) (dm : ∀ d ∈ m, d < 10) :
    Calls Try.prog 48 #[v, u] w fun e w' => (∃ v', e = .returned v' ∧ DigV v' (digs (valD l + valD m)) w') ∧ Ext w w' := by
  obtain ⟨p, c0, rfl⟩ := hv.form
  obtain ⟨q, c1, rfl⟩ := hu.form
  have hmax := fun ts t w => max_nat l.length m.length ts t w
  obtain ⟨K, hK⟩ : ∃ K : Nat, max l.length m.length = K := ⟨_, rfl⟩
  have hKl : l.length ≤ K ∧ m.length ≤ K ∧ K < 1000 := by omega
  rw [hK] at hmax
  have hmk := mk_row (K + 1) (by omega) w
  rw [show ((K + 1 : Nat) : Int) = (K : Int) + 1 from rfl] at hmk
  have hrow : RowD w.heap.size (List.replicate (K + 1) 0) (w.alloc (.cells (digC (List.replicate (K + 1) 0)).toArray 5)) := heap_last _ _
  have hx : Ext w (w.alloc (.cells (digC (List.replicate (K + 1) 0)).toArray 5)) := (Ext.refl _).alloc _
  generalize w.alloc (.cells (digC (List.replicate (K + 1) 0)).toArray 5) = W at *
  go_enter Try.func48, Try.ntmps48
  go_wp2_with fail
  go_loopw [7, 8] (fun x y wr => ∃ (c k : Nat) (done : List Nat), x = .int .i64 c ∧ y = .int .i64 ((k : Int) + 1) ∧ k ≤ K + 1 ∧ c ≤ 1 ∧ done.length = k ∧ (∀ d ∈ done, d < 10) ∧ RowD w.heap.size (List.replicate (K + 1 - k) 0 ++ done) wr ∧ Hid (valD done + c * 10 ^ k = valD (lastN l k) + valD (lastN m k)) ∧ Ext w wr) (fun _ y _ => K + 2 - (intOf y).toNat)
  case atStart => exact ⟨0, 0, [], rfl, rfl, by omega, by omega, rfl, by simp, by simpa using hrow, Lib.hid (by rw [lastN_zero, lastN_zero]; rfl), hx⟩
  case round =>
    obtain ⟨c, k, done, rfl, rfl, hk, hc, hlen, hd, hR, hsum, xr⟩ := hrel
    by_cases hin : k ≤ K
    · by_cases hA : k + 1 ≤ l.length
      · by_cases hB : k + 1 ≤ m.length
        · skip
          have hI3 : ((K : Int) + 1) - ((k : Int) + 1) = ((K - k : Nat) : Int) := by omega
          have hput := hR.put (K - k)
          have hjA : (l.length : Int) - ((k : Int) + 1) = ((l.length - (k + 1) : Nat) : Int) := by omega
          have cA := (hv.ext xr).pos (by omega)
          obtain ⟨bA, oA, capA, eA, hcA, hbA, cellA⟩ := cA
          injection eA with eA1 _ eA2
          subst eA1
          subst eA2
          have cA := cellA (l.length - (k + 1)) (by omega)
          have dA : l[l.length - (k + 1)] < 10 := dl _ (List.getElem_mem (by omega))
          have sA := lastN_step l k (by omega)
          generalize l[l.length - (k + 1)] = x at *
          have hjB : (m.length : Int) - ((k : Int) + 1) = ((m.length - (k + 1) : Nat) : Int) := by omega
          have cB := (hu.ext xr).pos (by omega)
          obtain ⟨bB, oB, capB, eB, hcB, hbB, cellB⟩ := cB
          injection eB with eB1 _ eB2
          subst eB1
          subst eB2
          have cB := cellB (m.length - (k + 1)) (by omega)
          have dB : m[m.length - (k + 1)] < 10 := dm _ (List.getElem_mem (by omega))
          have sB := lastN_step m k (by omega)
          generalize m[m.length - (k + 1)] = y at *
          have st := plus_step (x := x) (y := y) hsum.out
          have hsum2 : Hid (valD ((c + x + y) % 10 :: done) + (c + x + y) / 10 * 10 ^ (k + 1) = valD (lastN l (k + 1)) + valD (lastN m (k + 1))) := Lib.hid (by
            rw [valD_cons, hlen, sA, sB]
            omega)
          clear st sA sB hsum
          have hset := set_back (K + 1) k ((c + x + y) % 10) done (by omega) hlen
          rw [show K + 1 - (k + 1) = K - k from by omega] at hset
          have hput := hR.put (K - k) ((c + x + y) % 10)
          rw [hset] at hput
          have hfree := hR.free (K - k)
          have hcell := hR.cell (K - k) (by rw [List.length_append, List.length_replicate, hlen]; omega)
          have hd2 : ((((c + x + y) % 10 : Nat)) : Int) = ((c : Int) + x + y) % 10 := by omega
          rw [hd2] at hput
          go_wp2_with fail
          exact ⟨⟨(c + x + y) / 10, k + 1, (c + x + y) % 10 :: done, vI (by omega), rfl, by omega, by omega, by rw [List.length_cons, hlen], fun d hdd => (List.mem_cons.1 hdd).elim (fun h => by omega) (hd d), by rw [show K + 1 - (k + 1) = K - k from by omega]; exact hput, hsum2, ext_setCell xr (Nat.le_refl _) _⟩, by simp only [intOf]; omega⟩
        · skip
          have hI3 : ((K : Int) + 1) - ((k : Int) + 1) = ((K - k : Nat) : Int) := by omega
          have hput := hR.put (K - k)
          have hjA : (l.length : Int) - ((k : Int) + 1) = ((l.length - (k + 1) : Nat) : Int) := by omega
          have cA := (hv.ext xr).pos (by omega)
          obtain ⟨bA, oA, capA, eA, hcA, hbA, cellA⟩ := cA
          injection eA with eA1 _ eA2
          subst eA1
          subst eA2
          have cA := cellA (l.length - (k + 1)) (by omega)
          have dA : l[l.length - (k + 1)] < 10 := dl _ (List.getElem_mem (by omega))
          have sA := lastN_step l k (by omega)
          generalize l[l.length - (k + 1)] = x at *
          have sB := lastN_more m k (by omega)
          have st := plus_step (x := x) (y := 0) hsum.out
          have hsum2 : Hid (valD ((c + x + 0) % 10 :: done) + (c + x + 0) / 10 * 10 ^ (k + 1) = valD (lastN l (k + 1)) + valD (lastN m (k + 1))) := Lib.hid (by
            rw [valD_cons, hlen, sA, sB]
            omega)
          clear st sA sB hsum
          have hset := set_back (K + 1) k ((c + x + 0) % 10) done (by omega) hlen
          rw [show K + 1 - (k + 1) = K - k from by omega] at hset
          have hput := hR.put (K - k) ((c + x + 0) % 10)
          rw [hset] at hput
          have hfree := hR.free (K - k)
          have hcell := hR.cell (K - k) (by rw [List.length_append, List.length_replicate, hlen]; omega)
          have hd2 : ((((c + x + 0) % 10 : Nat)) : Int) = ((c : Int) + x) % 10 := by omega
          rw [hd2] at hput
          go_wp2_with fail
          exact ⟨⟨(c + x + 0) / 10, k + 1, (c + x + 0) % 10 :: done, vI (by omega), rfl, by omega, by omega, by rw [List.length_cons, hlen], fun d hdd => (List.mem_cons.1 hdd).elim (fun h => by omega) (hd d), by rw [show K + 1 - (k + 1) = K - k from by omega]; exact hput, hsum2, ext_setCell xr (Nat.le_refl _) _⟩, by simp only [intOf]; omega⟩
      · by_cases hB : k + 1 ≤ m.length
        · skip
          have hI3 : ((K : Int) + 1) - ((k : Int) + 1) = ((K - k : Nat) : Int) := by omega
          have hput := hR.put (K - k)
          have sA := lastN_more l k (by omega)
          have hjB : (m.length : Int) - ((k : Int) + 1) = ((m.length - (k + 1) : Nat) : Int) := by omega
          have cB := (hu.ext xr).pos (by omega)
          obtain ⟨bB, oB, capB, eB, hcB, hbB, cellB⟩ := cB
          injection eB with eB1 _ eB2
          subst eB1
          subst eB2
          have cB := cellB (m.length - (k + 1)) (by omega)
          have dB : m[m.length - (k + 1)] < 10 := dm _ (List.getElem_mem (by omega))
          have sB := lastN_step m k (by omega)
          generalize m[m.length - (k + 1)] = y at *
          have st := plus_step (x := 0) (y := y) hsum.out
          have hsum2 : Hid (valD ((c + 0 + y) % 10 :: done) + (c + 0 + y) / 10 * 10 ^ (k + 1) = valD (lastN l (k + 1)) + valD (lastN m (k + 1))) := Lib.hid (by
            rw [valD_cons, hlen, sA, sB]
            omega)
          clear st sA sB hsum
          have hset := set_back (K + 1) k ((c + 0 + y) % 10) done (by omega) hlen
          rw [show K + 1 - (k + 1) = K - k from by omega] at hset
          have hput := hR.put (K - k) ((c + 0 + y) % 10)
          rw [hset] at hput
          have hfree := hR.free (K - k)
          have hcell := hR.cell (K - k) (by rw [List.length_append, List.length_replicate, hlen]; omega)
          have hd2 : ((((c + 0 + y) % 10 : Nat)) : Int) = ((c : Int) + y) % 10 := by omega
          rw [hd2] at hput
          go_wp2_with fail
          exact ⟨⟨(c + 0 + y) / 10, k + 1, (c + 0 + y) % 10 :: done, vI (by omega), rfl, by omega, by omega, by rw [List.length_cons, hlen], fun d hdd => (List.mem_cons.1 hdd).elim (fun h => by omega) (hd d), by rw [show K + 1 - (k + 1) = K - k from by omega]; exact hput, hsum2, ext_setCell xr (Nat.le_refl _) _⟩, by simp only [intOf]; omega⟩
        · skip
          have hI3 : ((K : Int) + 1) - ((k : Int) + 1) = ((K - k : Nat) : Int) := by omega
          have hput := hR.put (K - k)
          have sA := lastN_more l k (by omega)
          have sB := lastN_more m k (by omega)
          have st := plus_step (x := 0) (y := 0) hsum.out
          have hsum2 : Hid (valD ((c + 0 + 0) % 10 :: done) + (c + 0 + 0) / 10 * 10 ^ (k + 1) = valD (lastN l (k + 1)) + valD (lastN m (k + 1))) := Lib.hid (by
            rw [valD_cons, hlen, sA, sB]
            omega)
          clear st sA sB hsum
          have hset := set_back (K + 1) k ((c + 0 + 0) % 10) done (by omega) hlen
          rw [show K + 1 - (k + 1) = K - k from by omega] at hset
          have hput := hR.put (K - k) ((c + 0 + 0) % 10)
          rw [hset] at hput
          have hfree := hR.free (K - k)
          have hcell := hR.cell (K - k) (by rw [List.length_append, List.length_replicate, hlen]; omega)
          have hd2 : ((((c + 0 + 0) % 10 : Nat)) : Int) = ((c : Int)) % 10 := by omega
          rw [hd2] at hput
          go_wp2_with fail
          exact ⟨⟨(c + 0 + 0) / 10, k + 1, (c + 0 + 0) % 10 :: done, vI (by omega), rfl, by omega, by omega, by rw [List.length_cons, hlen], fun d hdd => (List.mem_cons.1 hdd).elim (fun h => by omega) (hd d), by rw [show K + 1 - (k + 1) = K - k from by omega]; exact hput, hsum2, ext_setCell xr (Nat.le_refl _) _⟩, by simp only [intOf]; omega⟩
    · obtain rfl : k = K + 1 := by omega
      rw [show K + 1 - (K + 1) = 0 from by omega, List.replicate_zero, List.nil_append] at hR
      have hs := hsum.out
      rw [lastN_all l _ (by omega), lastN_all m _ (by omega)] at hs
      have b1 := valD_lt l dl
      have b2 := valD_lt m dm
      have p1 : 10 ^ l.length ≤ 10 ^ K := Nat.pow_le_pow_right (by omega) (by omega)
      have p2 : 10 ^ m.length ≤ 10 ^ K := Nat.pow_le_pow_right (by omega) (by omega)
      have hc0 : c = 0 := by
        rcases Nat.eq_zero_or_pos c with h | h
        · exact h
        · have : 10 ^ (K + 1) ≤ c * 10 ^ (K + 1) := Nat.le_mul_of_pos_left _ h
          rw [Nat.pow_succ] at this hs
          omega
      subst hc0
      have hval : valD done = valD l + valD m := by omega
      have C := trim_any (.slice (some ⟨w.heap.size, 0, none⟩) done.length (K + 1)) done wr (hR.dig (K + 1) (by omega)) (by omega)
      rw [trimD_is done hd, hval, hlen] at C
      clear hs b1 b2 p1 p2 hval hsum hR
      go_wp2_with fail
      (with_reducible refine C.mono ?_)
      rintro e w1 ⟨⟨v', rfl, hv'⟩, rfl⟩
      go_wp2_with fail
      go_ret
      exact ⟨⟨_, rfl, hv'⟩, xr⟩
end Go.Proofs.Ythfihlapgoglaaa
