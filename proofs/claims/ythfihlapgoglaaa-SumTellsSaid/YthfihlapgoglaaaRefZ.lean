/- The walk of the document's product. -/
import Derived.Test.YthfihlapgoglaaaRefY
import Derived.BigRegion
namespace Go.Proofs.Ythfihlapgoglaaa
open Go.RowKit

/-- A row of whole numbers in memory, the call's own. -/
def numC (l : List Nat) : List Value := l.map (fun d : Nat => Value.int .i64 (d : Int))
def RowN (b : Nat) (L : List Nat) (w : World) : Prop := w.heap[b]? = some (.cells (numC L).toArray 3 (0, 0))
theorem RowN.lt {b : Nat} {L : List Nat} {w : World} (h : RowN b L w) : b < w.heap.size := (Array.getElem?_eq_some_iff.1 h).1
theorem RowN.cell {b : Nat} {L : List Nat} {w : World} (h : RowN b L w) (i : Nat) (hi : i < L.length) : w.cell? ⟨b, i, none⟩ = some (.int .i64 (L[i] : Int)) := by
  rw [Lib.cell_of_heap h]
  simp [numC, List.getElem?_eq_getElem hi]
theorem RowN.free {b : Nat} {L : List Nat} {w : World} (h : RowN b L w) (i : Nat) : w.frozen? ⟨b, i, none⟩ = false := Lib.frozen_of_heap h i
theorem RowN.put {b : Nat} {L : List Nat} {w : World} (h : RowN b L w) (i d : Nat) : RowN b (L.set i d) (w.setCell ⟨b, i, none⟩ (.int .i64 (d : Int))) := by
  have hl : numC (L.set i d) = (numC L).set i (.int .i64 (d : Int)) := by
    unfold numC
    rw [← List.map_set]
  unfold RowN at *
  rw [hl]
  simp [World.setCell, Array.getElem?_modify, h]
theorem RowN.other {b : Nat} {L : List Nat} {w : World} (h : RowN b L w) (p : Addr) (v : Value) (hp : p.block ≠ b) : RowN b L (w.setCell p v) := by
  unfold RowN at *
  rw [← h]
  simp [World.setCell, Array.getElem?_modify, hp]
theorem RowN.ext {b : Nat} {L : List Nat} {w w' : World} (h : RowN b L w) (x : Ext w w') : RowN b L w' := (x.heap h.lt).trans h
theorem infoInt : (Try.prog.info? 3).map (fun i => (i.zero, i.size, i.bytes)) = some (some (.int .i64 0), 1, 8) := by kernel_rfl
theorem mk_nums (n : Nat) (hn : n ≤ 1000000) (w : World) : (Instr.makeSlice 74 (.int .i64 (n : Int)) (.int .i64 (n : Int))).run Try.prog w = .ok (.slice (some ⟨w.heap.size, 0, none⟩) n n) (w.alloc (.cells (numC (List.replicate n 0)).toArray 3)) := by
  obtain ⟨i, hi, hi3⟩ := Option.map_eq_some_iff.1 infoInt
  obtain ⟨hz, hsz, hby⟩ : i.zero = some (.int .i64 0) ∧ i.size = 1 ∧ i.bytes = 8 := by
    injection hi3 with h1 h2; injection h2 with h2 h3; exact ⟨h1, h2, h3⟩
  have h := run_make (P := Try.prog) w 74 3 i (.int .i64 0) Try.underlying74 hi hz .i64 .i64 n n (by omega) (by omega) (by rw [hby]; omega) (by omega)
  rw [h]
  have e : madeCells (Value.int IntKind.i64 0).cells ((n : Int).toNat * i.size) = (numC (List.replicate n 0)).toArray := by
    rw [hsz]
    apply Array.ext
    · simp [numC, size_madeCells]
    · intro j h1 h2
      simp [numC, madeCells, Value.cells, Nat.mod_one]
  rw [e]; rfl

theorem DigV.at2 {b o n c : Nat} {l : List Nat} {w : World} (h : DigV (.slice (some ⟨b, o, none⟩) n c) l w) (i : Nat) (hi : i < l.length) : w.cell? ⟨b, o + i, none⟩ = some (.int .u8 (l[i] : Int)) := by
  rcases h with ⟨_, h⟩ | ⟨b', o', c', h, _, _, hc⟩
  · cases h
  · injection h with h1 _ _
    injection h1 with h1
    injection h1 with h1 h2 _
    subst h1 h2
    exact hc i hi
theorem drop_val (l : List Nat) (i : Nat) (h : i < l.length) : valD (l.drop i) = l[i] * 10 ^ (l.length - (i + 1)) + valD (l.drop (i + 1)) := by
  rw [List.drop_eq_getElem_cons h, valD_cons, List.length_drop]
theorem dropI_val (l : List Nat) (i : Nat) (h : i < l.length) : valI (l.drop i) = l[i] * 10 ^ (l.length - (i + 1)) + valI (l.drop (i + 1)) := by
  rw [List.drop_eq_getElem_cons h, valI, List.length_drop]

set_option maxHeartbeats 16000000 in
set_option maxRecDepth 100000 in
theorem product_dig (v u : Value) (l m : List Nat) (w : World) (hv : DigV v l w) (hu : DigV u m w) (hl : l.length < 100) (hm : m.length < 100) (dl : ∀ d ∈ l, d < 10) (dm : ∀ d ∈ m, d < 10) :
    Calls Try.prog 33 #[v, u] w fun e w' => (∃ v', e = .returned v' ∧ DigV v' (digs (valD l * valD m)) w') ∧ Ext w w' := by
  obtain ⟨p, c0, rfl⟩ := hv.form
  obtain ⟨q, c1, rfl⟩ := hu.form
  have hmk := mk_nums (l.length + m.length) (by omega) w
  rw [show ((l.length + m.length : Nat) : Int) = (l.length : Int) + (m.length : Int) from rfl] at hmk
  have hrow : RowN w.heap.size (List.replicate (l.length + m.length) 0) (w.alloc (.cells (numC (List.replicate (l.length + m.length) 0)).toArray 3)) := heap_last _ _
  have hx : Ext w (w.alloc (.cells (numC (List.replicate (l.length + m.length) 0)).toArray 3)) := (Ext.refl _).alloc _
  generalize w.alloc (.cells (numC (List.replicate (l.length + m.length) 0)).toArray 3) = W at *
  go_enter Try.func33, Try.ntmps33
  go_wp2_with fail
  go_loopw [6] (fun x wr => ∃ (z : Int) (n : Nat) (out : List Nat), x = .int .i64 z ∧ z = (n : Int) - 1 ∧ n ≤ l.length ∧ out.length = l.length + m.length ∧ RowN w.heap.size out wr ∧ Hid (valI out = valD (l.drop n) * valD m) ∧ Hid (∀ (j : Nat) (h : j < out.length), out[j] ≤ 81 * (l.length - n)) ∧ Ext w wr) (fun x _ => (intOf x + 1).toNat)
  case atStart => exact ⟨_, l.length, _, rfl, rfl, Nat.le_refl _, List.length_replicate, hrow, Lib.hid (by rw [valI_zero, List.drop_eq_nil_of_le (Nat.le_refl _)]; simp [valD]), Lib.hid (fun j h => by simp), hx⟩
  case round =>
    obtain ⟨z, n, out, rfl, hz, hn, ho, hR, hval, hbd, xr⟩ := hrel
    by_cases h0 : n = 0
    · subst h0
      obtain rfl : z = -1 := by omega
      clear hz
      have hmk2 := mk_row (l.length + m.length) (by omega) wr
      rw [show ((l.length + m.length : Nat) : Int) = (l.length : Int) + (m.length : Int) from rfl] at hmk2
      have hlt := hR.lt
      have hrow2 : RowD wr.heap.size (List.replicate (l.length + m.length) 0) (wr.alloc (.cells (digC (List.replicate (l.length + m.length) 0)).toArray 5)) := heap_last _ _
      have hR0 : RowN w.heap.size out (wr.alloc (.cells (digC (List.replicate (l.length + m.length) 0)).toArray 5)) := hR.ext ((Ext.refl _).alloc _)
      have x0 : Ext w (wr.alloc (.cells (digC (List.replicate (l.length + m.length) 0)).toArray 5)) := xr.alloc _
      obtain ⟨B2, hB2⟩ : ∃ B2, wr.heap.size = B2 := ⟨_, rfl⟩
      rw [hB2] at hmk2 hlt hrow2
      generalize wr.alloc (.cells (digC (List.replicate (l.length + m.length) 0)).toArray 5) = W2 at *
      go_wp2_with fail
      go_loopw [9, 10] (fun x y wq => ∃ (c : Nat) (z : Int) (n : Nat) (done : List Nat), x = .int .i64 c ∧ y = .int .i64 z ∧ z = (n : Int) - 1 ∧ n ≤ l.length + m.length ∧ done.length = l.length + m.length - n ∧ (∀ d ∈ done, d < 10) ∧ RowD B2 (List.replicate n 0 ++ done) wq ∧ RowN w.heap.size out wq ∧ c ≤ 81000 ∧ Hid (valD done + c * 10 ^ (l.length + m.length - n) = valI (out.drop n)) ∧ Ext w wq) (fun _ y _ => (intOf y + 1).toNat)
      case atStart => exact ⟨0, _, l.length + m.length, [], rfl, rfl, rfl, Nat.le_refl _, by simp, by simp, by simpa using hrow2, hR0, by omega, Lib.hid (by rw [List.drop_eq_nil_of_le (by omega)]; simp [valD, valI]), x0⟩
      case round =>
        obtain ⟨c, z, n, done, rfl, rfl, hz, hn2, hlen, hd, hRD, hRN, hc, hsum, xq⟩ := hrel
        by_cases h0 : n = 0
        · subst h0
          obtain rfl : z = -1 := by omega
          clear hz
          rw [List.replicate_zero, List.nil_append] at hRD
          have hs := hsum.out
          have hv0 := hval.out
          rw [List.drop_zero] at hs hv0
          rw [hv0, Nat.sub_zero] at hs
          rw [Nat.sub_zero] at hlen
          have b1 := valD_lt l dl
          have b2 := valD_lt m dm
          have b3 : valD l * valD m < 10 ^ (l.length + m.length) := by
            rw [Nat.pow_add]
            exact Nat.mul_lt_mul'' b1 b2
          have hc0 : c = 0 := by
            rcases Nat.eq_zero_or_pos c with h | h
            · exact h
            · have : 10 ^ (l.length + m.length) ≤ c * 10 ^ (l.length + m.length) := Nat.le_mul_of_pos_left _ h
              omega
          subst hc0
          have hval2 : valD done = valD l * valD m := by omega
          have C := trim_any (.slice (some ⟨B2, 0, none⟩) done.length (l.length + m.length)) done wr (hRD.dig (l.length + m.length) (by omega)) (by omega)
          rw [trimD_is done hd, hval2, hlen] at C
          clear hs hv0 b1 b2 b3 hval2 hsum hval hbd
          go_wp2_with fail
          (with_reducible refine C.mono ?_)
          rintro e w1 ⟨⟨v', rfl, hv'⟩, rfl⟩
          go_wp2_with fail
          go_ret
          exact ⟨⟨_, rfl, hv'⟩, xq⟩
        · obtain ⟨i, rfl⟩ : ∃ i, n = i + 1 := ⟨n - 1, by omega⟩
          obtain rfl : z = (i : Int) := by omega
          clear hz
          have cO := hRN.cell i (by omega)
          have hbo := hbd.out i (by omega)
          have hdr := dropI_val out i (by omega)
          have st := carry_step (x := out[i]) hsum.out
          generalize out[i] = x at *
          rw [ho] at hdr
          have hsum2 : Hid (valD ((c + x) % 10 :: done) + (c + x) / 10 * 10 ^ (l.length + m.length - i) = valI (out.drop i)) := Lib.hid (by
            rw [valD_cons, hlen, hdr]
            rw [show l.length + m.length - (i + 1) + 1 = l.length + m.length - i from by omega] at st
            omega)
          have hset := set_back (l.length + m.length) (l.length + m.length - (i + 1)) ((c + x) % 10) done (by omega) hlen
          rw [show l.length + m.length - (l.length + m.length - (i + 1)) = i + 1 from by omega, show l.length + m.length - (l.length + m.length - (i + 1) + 1) = i from by omega] at hset
          have hput := hRD.put i ((c + x) % 10)
          rw [hset] at hput
          have hfree := hRD.free i
          have hcell := hRD.cell i (by rw [List.length_append, List.length_replicate]; omega)
          have hd2 : ((((c + x) % 10 : Nat)) : Int) = ((c : Int) + x) % 10 := by omega
          rw [hd2] at hput
          have hx2 : x ≤ 8100 := by omega
          have hoth := hRN.other ⟨B2, i, none⟩ (.int .u8 (((c : Int) + x) % 10)) (by simp only []; omega)
          clear st hdr hbo hsum
          go_wp2_with fail
          exact ⟨⟨(c + x) / 10, (i : Int) - 1, i, (c + x) % 10 :: done, vI (by omega), rfl, rfl, by omega, by rw [List.length_cons, hlen]; omega, fun d hdd => (List.mem_cons.1 hdd).elim (fun h => by omega) (hd d), hput, hoth, by omega, hsum2, ext_setCell xq (by show w.heap.size ≤ B2; omega) _⟩, by simp only [intOf]; omega⟩
    · obtain ⟨i, rfl⟩ : ∃ i, n = i + 1 := ⟨n - 1, by omega⟩
      obtain rfl : z = (i : Int) := by omega
      clear hz
      have hv2 := hv.ext xr
      obtain ⟨bA, oA, capA, eA, hcA, hbA, cellA⟩ := hv2.pos (by omega)
      injection eA with eA1 _ eA2
      subst eA1
      subst eA2
      go_wp2_with fail
      obtain ⟨a, ha⟩ : ∃ a, l[i] = a := ⟨_, rfl⟩
      have ha10 : a < 10 := by rw [← ha]; exact dl _ (List.getElem_mem _)
      go_loopw [7] (fun y wq => ∃ (z : Int) (r : Nat) (o2 : List Nat), y = .int .i64 z ∧ z = (r : Int) - 1 ∧ r ≤ m.length ∧ o2.length = l.length + m.length ∧ RowN w.heap.size o2 wq ∧ Hid (valI o2 = valD (l.drop (i + 1)) * valD m + a * 10 ^ (l.length - (i + 1)) * valD (m.drop r)) ∧ Hid (∀ (j : Nat) (h : j < o2.length), o2[j] ≤ 81 * (l.length - (i + 1)) + (if i + 1 + r ≤ j then 81 else 0)) ∧ Ext w wq) (fun y _ => (intOf y + 1).toNat)
      case atStart => exact ⟨_, m.length, out, rfl, rfl, Nat.le_refl _, ho, hR, Lib.hid (by rw [hval.out, List.drop_eq_nil_of_le (Nat.le_refl _)]; simp [valD]), Lib.hid (fun j h => Nat.le_trans (hbd.out j h) (Nat.le_add_right _ _)), xr⟩
      case round =>
        obtain ⟨z, r, o2, rfl, hz, hr, ho2, hR2, hval2, hbd2, xq⟩ := hrel
        by_cases hr0 : r = 0
        · subst hr0
          obtain rfl : z = -1 := by omega
          clear hz
          have hv3 : Hid (valI o2 = valD (l.drop i) * valD m) := Lib.hid (by
            rw [hval2.out, drop_val l i (by omega), ha, List.drop_zero, Nat.add_mul, Nat.add_comm])
          have hb3 : Hid (∀ (j : Nat) (h : j < o2.length), o2[j] ≤ 81 * (l.length - i)) := Lib.hid (fun j h => by
            have := hbd2.out j h
            have h2 : (if i + 1 + 0 ≤ j then 81 else 0) ≤ 81 := by split <;> omega
            omega)
          clear hval2 hbd2 hval hbd
          go_wp2_with fail
          go_roundw
          case rel => exact ⟨(i : Int) - 1, i, o2, rfl, rfl, by omega, ho2, hR2, hv3, hb3, xq⟩
          case measure => simp only [intOf]; omega
        · obtain ⟨k, rfl⟩ : ∃ k, r = k + 1 := ⟨r - 1, by omega⟩
          obtain rfl : z = (k : Int) := by omega
          clear hz hval hbd
          have hu2 := hu.ext xq
          obtain ⟨bB, oB, capB, eB, hcB, hbB, cellB⟩ := hu2.pos (by omega)
          injection eB with eB1 _ eB2
          subst eB1
          subst eB2
          have cA := (hv.ext xq).at2 i (by omega)
          have cB := (hu.ext xq).at2 k (by omega)
          rw [ha] at cA
          have hb10 : m[k] < 10 := dm _ (List.getElem_mem _)
          have hdk := drop_val m k (by omega)
          generalize m[k] = b at *
          have cO := hR2.cell (i + k + 1) (by omega)
          obtain ⟨ov, hov⟩ : ∃ ov, o2[i + k + 1]'(by omega) = ov := ⟨_, rfl⟩
          rw [hov] at cO
          have fO := hR2.free (i + k + 1)
          have hbo := hbd2.out (i + k + 1) (by omega)
          rw [if_neg (by omega), hov] at hbo
          have hset := valI_set o2 (i + k + 1) (a * b) (by omega)
          rw [hov] at hset
          have hput := hR2.put (i + k + 1) (ov + a * b)
          have hb4 : Hid (∀ (j : Nat) (h : j < (o2.set (i + k + 1) (ov + a * b)).length), (o2.set (i + k + 1) (ov + a * b))[j] ≤ 81 * (l.length - (i + 1)) + (if i + 1 + k ≤ j then 81 else 0)) := Lib.hid (fun j h => by
            have hab : a * b ≤ 81 := Nat.mul_le_mul (show a ≤ 9 by omega) (show b ≤ 9 by omega)
            rw [List.getElem_set]
            by_cases hj : i + k + 1 = j
            · rw [if_pos hj, if_pos (by omega)]; omega
            · rw [if_neg hj]
              have := hbd2.out j (by rw [List.length_set] at h; exact h)
              by_cases h1 : i + 1 + (k + 1) ≤ j
              · rw [if_pos h1] at this; rw [if_pos (by omega)]; exact this
              · rw [if_neg h1] at this; omega)
          have hv4 : Hid (valI (o2.set (i + k + 1) (ov + a * b)) = valD (l.drop (i + 1)) * valD m + a * 10 ^ (l.length - (i + 1)) * valD (m.drop k)) := Lib.hid (by
            rw [hset, hval2.out, hdk, ho2, Nat.mul_add, ← Nat.mul_assoc, show l.length + m.length - 1 - (i + k + 1) = (l.length - (i + 1)) + (m.length - (k + 1)) from by omega, Nat.pow_add]
            have e : a * b * (10 ^ (l.length - (i + 1)) * 10 ^ (m.length - (k + 1))) = a * 10 ^ (l.length - (i + 1)) * b * 10 ^ (m.length - (k + 1)) := by
              simp only [Nat.mul_assoc, Nat.mul_left_comm]
            omega)
          have hab : a * b ≤ 81 := Nat.mul_le_mul (show a ≤ 9 by omega) (show b ≤ 9 by omega)
          have habI : (a : Int) * (b : Int) = ((a * b : Nat) : Int) := rfl
          have e1 : IntKind.i64.wrap ((i : Int) + k) = (i : Int) + k := IntWalk.i64_in _ (by omega)
          have e2 : IntKind.i64.wrap ((i : Int) + k + 1) = (i : Int) + k + 1 := IntWalk.i64_in _ (by omega)
          have e3 : IntKind.i64.wrap ((a : Int) * b) = (a : Int) * b := IntWalk.i64_in _ (by rw [habI]; omega)
          have e4 : IntKind.i64.wrap ((ov : Int) + (a : Int) * b) = (ov : Int) + (a : Int) * b := IntWalk.i64_in _ (by rw [habI]; omega)
          have e5 : ((i : Int) + k + 1).toNat = i + k + 1 := by omega
          have e6 : (0 : Int) ≤ (i : Int) + k + 1 := by omega
          have e7 : (i : Int) + k + 1 < (l.length : Int) + (m.length : Int) := by omega
          have e8 : IntKind.i64.wrap (a : Int) = a := IntWalk.i64_in _ (by omega)
          have e9 : IntKind.i64.wrap (b : Int) = b := IntWalk.i64_in _ (by omega)
          have e10 : (0 : Int) ≤ (i : Int) := by omega
          have e11 : (i : Int) < (l.length : Int) := by omega
          have e12 : (0 : Int) ≤ (k : Int) := by omega
          have e13 : (k : Int) < (m.length : Int) := by omega
          clear hset hbo hval2 hbd2 hdk habI
          clear hov
          go_wp2_with fail
          go_region
          clear e1 e2 e3 e4 e5 e6 e7 e8 e9 e10 e11 e12 e13
          go_wp2_with fail
          go_roundw
          case rel => exact ⟨(k : Int) - 1, k, o2.set (i + k + 1) (ov + a * b), rfl, rfl, by omega, by rw [List.length_set]; exact ho2, hput, hv4, hb4, (ext_setCell xq (Nat.le_refl _) _).drew⟩
          case measure => simp only [intOf]; omega
end Go.Proofs.Ythfihlapgoglaaa
