/- The walk of the document's minus. -/
import Derived.Test.YthfihlapgoglaaaRefW
import Derived.Test.YthfihlapgoglaaaRefTr
namespace Go.Proofs.Ythfihlapgoglaaa
open Go.RowKit

set_option maxHeartbeats 8000000 in
set_option maxRecDepth 100000 in
theorem minus_dig (v u : Value) (l m : List Nat) (w : World) (hv : DigV v l w) (hu : DigV u m w) (hl : l.length < 1000) (hm : m.length ≤ l.length) (dl : ∀ d ∈ l, d < 10) (dm : ∀ d ∈ m, d < 10) (hle : valD m ≤ valD l) :
    Calls Try.prog 49 #[v, u] w fun e w' => (∃ v', e = .returned v' ∧ DigV v' (digs (valD l - valD m)) w' ∧ ∀ g, v'.ownBlock = some g → w.heap.size ≤ g) ∧ Ext w w' := by
  obtain ⟨p, c0, rfl⟩ := hv.form
  obtain ⟨q, c1, rfl⟩ := hu.form
  have hmk := mk_row l.length (by omega) w
  have hrow : RowD w.heap.size (List.replicate l.length 0) (w.alloc (.cells (digC (List.replicate l.length 0)).toArray 5)) := heap_last _ _
  have hx : Ext w (w.alloc (.cells (digC (List.replicate l.length 0)).toArray 5)) := (Ext.refl _).alloc _
  generalize w.alloc (.cells (digC (List.replicate l.length 0)).toArray 5) = W at *
  go_enter Try.func49, Try.ntmps49
  go_wp2_with fail
  go_loopw [6, 7] (fun x y wr => ∃ (c k : Nat) (done : List Nat), x = .int .i64 c ∧ y = .int .i64 ((k : Int) + 1) ∧ k ≤ l.length ∧ c ≤ 1 ∧ done.length = k ∧ (∀ d ∈ done, d < 10) ∧ RowD w.heap.size (List.replicate (l.length - k) 0 ++ done) wr ∧ Hid (valD done + valD (lastN m k) = valD (lastN l k) + c * 10 ^ k) ∧ Ext w wr) (fun _ y _ => l.length + 1 - (intOf y).toNat)
  case atStart => exact ⟨0, 0, [], rfl, rfl, by omega, by omega, rfl, by simp, by simpa using hrow, Lib.hid (by rw [lastN_zero, lastN_zero]; rfl), hx⟩
  case round =>
    obtain ⟨c, k, done, rfl, rfl, hk, hc, hlen, hd, hR, hsum, xr⟩ := hrel
    by_cases hin : k < l.length
    · by_cases hB : k + 1 ≤ m.length
      · skip
        have hI3 : (l.length : Int) - ((k : Int) + 1) = ((l.length - (k + 1) : Nat) : Int) := by omega
        have cA := (hv.ext xr).pos (by omega)
        obtain ⟨bA, oA, capA, eA, hcA, hbA, cellA⟩ := cA
        injection eA with eA1 _ eA2
        subst eA1
        subst eA2
        have cA := cellA (l.length - (k + 1)) (by omega)
        have dA : l[l.length - (k + 1)] < 10 := dl _ (List.getElem_mem (by omega))
        have sA := lastN_step l k (by omega)
        generalize l[l.length - (k + 1)] = x at *
        have hjB : (m.length : Int) - ((k : Int) + 1) = ((m.length - (k + 1) : Nat) : Int) := by omega
        have cB := (hu.ext xr).pos (by omega)
        obtain ⟨bB, oB, capB, eB, hcB, hbB, cellB⟩ := cB
        injection eB with eB1 _ eB2
        subst eB1
        subst eB2
        have cB := cellB (m.length - (k + 1)) (by omega)
        have dB : m[m.length - (k + 1)] < 10 := dm _ (List.getElem_mem (by omega))
        have sB := lastN_step m k (by omega)
        generalize m[m.length - (k + 1)] = y at *
        obtain ⟨st, sd⟩ := minus_step (x := x) (y := y) (k := k) hsum.out dA dB hc
        by_cases hlt : x < c + y
        · rw [if_pos hlt] at st sd
          rw [if_pos hlt] at st
          have hsum2 : Hid (valD ((x + 10 - (c + y)) :: done) + valD (lastN m (k + 1)) = valD (lastN l (k + 1)) + 1 * 10 ^ (k + 1)) := Lib.hid (by
            rw [valD_cons, hlen, sA, sB]
            omega)
          clear st sA sB hsum
          have hset := set_back l.length k (x + 10 - (c + y)) done (by omega) hlen
          have hput := hR.put (l.length - (k + 1)) (x + 10 - (c + y))
          rw [hset] at hput
          have hfree := hR.free (l.length - (k + 1))
          have hcell := hR.cell (l.length - (k + 1)) (by rw [List.length_append, List.length_replicate, hlen]; omega)
          have hd2 : (((x + 10 - (c + y)) : Nat) : Int) = (x : Int) - c - y + 10 := by omega
          rw [hd2] at hput
          have hlt2 : (x : Int) - c - y < 0 := by omega
          go_wp2_with fail
          exact ⟨⟨1, k + 1, (x + 10 - (c + y)) :: done, rfl, rfl, by omega, by omega, by rw [List.length_cons, hlen], fun d hdd => (List.mem_cons.1 hdd).elim (fun h => by omega) (hd d), hput, hsum2, ext_setCell xr (Nat.le_refl _) _⟩, by simp only [intOf]; omega⟩
        · rw [if_neg hlt] at st sd
          rw [if_neg hlt] at st
          have hsum2 : Hid (valD ((x - (c + y)) :: done) + valD (lastN m (k + 1)) = valD (lastN l (k + 1)) + 0 * 10 ^ (k + 1)) := Lib.hid (by
            rw [valD_cons, hlen, sA, sB]
            omega)
          clear st sA sB hsum
          have hset := set_back l.length k (x - (c + y)) done (by omega) hlen
          have hput := hR.put (l.length - (k + 1)) (x - (c + y))
          rw [hset] at hput
          have hfree := hR.free (l.length - (k + 1))
          have hcell := hR.cell (l.length - (k + 1)) (by rw [List.length_append, List.length_replicate, hlen]; omega)
          have hd2 : (((x - (c + y)) : Nat) : Int) = (x : Int) - c - y := by omega
          rw [hd2] at hput
          have hlt2 : (x : Int) - c - y ≥ 0 := by omega
          go_wp2_with fail
          exact ⟨⟨0, k + 1, (x - (c + y)) :: done, rfl, rfl, by omega, by omega, by rw [List.length_cons, hlen], fun d hdd => (List.mem_cons.1 hdd).elim (fun h => by omega) (hd d), hput, hsum2, ext_setCell xr (Nat.le_refl _) _⟩, by simp only [intOf]; omega⟩
      · skip
        have hI3 : (l.length : Int) - ((k : Int) + 1) = ((l.length - (k + 1) : Nat) : Int) := by omega
        have cA := (hv.ext xr).pos (by omega)
        obtain ⟨bA, oA, capA, eA, hcA, hbA, cellA⟩ := cA
        injection eA with eA1 _ eA2
        subst eA1
        subst eA2
        have cA := cellA (l.length - (k + 1)) (by omega)
        have dA : l[l.length - (k + 1)] < 10 := dl _ (List.getElem_mem (by omega))
        have sA := lastN_step l k (by omega)
        generalize l[l.length - (k + 1)] = x at *
        have sB := lastN_more m k (by omega)
        obtain ⟨st, sd⟩ := minus_step (x := x) (y := 0) (k := k) hsum.out dA (by omega) hc
        by_cases hlt : x < c + 0
        · rw [if_pos hlt] at st sd
          rw [if_pos hlt] at st
          have hsum2 : Hid (valD ((x + 10 - (c + 0)) :: done) + valD (lastN m (k + 1)) = valD (lastN l (k + 1)) + 1 * 10 ^ (k + 1)) := Lib.hid (by
            rw [valD_cons, hlen, sA, sB]
            omega)
          clear st sA sB hsum
          have hset := set_back l.length k (x + 10 - (c + 0)) done (by omega) hlen
          have hput := hR.put (l.length - (k + 1)) (x + 10 - (c + 0))
          rw [hset] at hput
          have hfree := hR.free (l.length - (k + 1))
          have hcell := hR.cell (l.length - (k + 1)) (by rw [List.length_append, List.length_replicate, hlen]; omega)
          have hd2 : (((x + 10 - (c + 0)) : Nat) : Int) = (x : Int) - c + 10 := by omega
          rw [hd2] at hput
          have hlt2 : (x : Int) - c < 0 := by omega
          go_wp2_with fail
          exact ⟨⟨1, k + 1, (x + 10 - (c + 0)) :: done, rfl, rfl, by omega, by omega, by rw [List.length_cons, hlen], fun d hdd => (List.mem_cons.1 hdd).elim (fun h => by omega) (hd d), hput, hsum2, ext_setCell xr (Nat.le_refl _) _⟩, by simp only [intOf]; omega⟩
        · rw [if_neg hlt] at st sd
          rw [if_neg hlt] at st
          have hsum2 : Hid (valD ((x - (c + 0)) :: done) + valD (lastN m (k + 1)) = valD (lastN l (k + 1)) + 0 * 10 ^ (k + 1)) := Lib.hid (by
            rw [valD_cons, hlen, sA, sB]
            omega)
          clear st sA sB hsum
          have hset := set_back l.length k (x - (c + 0)) done (by omega) hlen
          have hput := hR.put (l.length - (k + 1)) (x - (c + 0))
          rw [hset] at hput
          have hfree := hR.free (l.length - (k + 1))
          have hcell := hR.cell (l.length - (k + 1)) (by rw [List.length_append, List.length_replicate, hlen]; omega)
          have hd2 : (((x - (c + 0)) : Nat) : Int) = (x : Int) - c := by omega
          rw [hd2] at hput
          have hlt2 : (x : Int) - c ≥ 0 := by omega
          go_wp2_with fail
          exact ⟨⟨0, k + 1, (x - (c + 0)) :: done, rfl, rfl, by omega, by omega, by rw [List.length_cons, hlen], fun d hdd => (List.mem_cons.1 hdd).elim (fun h => by omega) (hd d), hput, hsum2, ext_setCell xr (Nat.le_refl _) _⟩, by simp only [intOf]; omega⟩
    · obtain rfl : k = l.length := by omega
      rw [Nat.sub_self, List.replicate_zero, List.nil_append] at hR
      have hs := hsum.out
      rw [lastN_all l _ (Nat.le_refl _), lastN_all m _ hm] at hs
      have b1 := valD_lt l dl
      have b2 := valD_lt done hd
      rw [hlen] at b2
      have hc0 : c = 0 := by
        rcases Nat.eq_zero_or_pos c with h | h
        · exact h
        · have : 10 ^ l.length ≤ c * 10 ^ l.length := Nat.le_mul_of_pos_left _ h
          omega
      subst hc0
      have hval : valD done = valD l - valD m := by omega
      have C := trim_from w.heap.size (.slice (some ⟨w.heap.size, 0, none⟩) done.length l.length) done wr (hR.dig l.length (by omega)) (by omega) (fun g hg => by simp [Value.ownBlock] at hg; omega)
      rw [trimD_is done hd, hval, hlen] at C
      clear hs b1 b2 hval hsum hR
      go_wp2_with fail
      (with_reducible refine C.mono ?_)
      rintro e w1 ⟨⟨v', rfl, hv', hb'⟩, rfl⟩
      go_wp2_with fail
      go_ret
      exact ⟨⟨_, rfl, hv', hb'⟩, xr⟩
end Go.Proofs.Ythfihlapgoglaaa
