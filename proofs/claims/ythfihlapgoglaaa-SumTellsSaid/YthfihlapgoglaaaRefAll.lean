/- The walk of the document's AddAll. -/
import Derived.Test.YthfihlapgoglaaaRefBad
import Derived.Test.YthfihlapgoglaaaRefAdd
import Derived.Deep.RegionWith
import Derived.Deep.DeepCutAuto
namespace Go.Proofs.Ythfihlapgoglaaa
open Go.RowKit

/-- Add of one that may be and one that may be or not: what it tells, and how the sum of many goes on. -/
theorem RAdd_step (m s m' s' : Int) (l : List (Int × Int)) (g : goodB m s = true) (i : I64 m) (j1 : I64 m') (j2 : I64 s') :
    ∃ (m3 s3 : Int) (ok : Bool), (∀ w, Calls Try.prog 27 #[.agg #[.int .i64 m, .int .i64 s], .agg #[.int .i64 m', .int .i64 s']] w fun e w' => e = .returned (.tuple #[.agg #[.int .i64 m3, .int .i64 s3], .bool ok]) ∧ Ext w w') ∧ (ok = true → goodB m3 s3 = true ∧ I64 m3 ∧ rAll m s ((m', s') :: l) = rAll m3 s3 l) ∧ (ok = false → rAll m s ((m', s') :: l) = ((0, 0), false)) := by
  by_cases gd : goodB m' s' = true
  · refine ⟨decMv (raB m s m' s') (raN m s m' s') 18, decSv (raN m s m' s') 18, decOk (raN m s m' s') 18, fun w => RAdd_good m s m' s' w i j1 g gd, ?_, ?_⟩
    · intro ho
      have e2 := radd_is m s m' s'
      have hg := (canZ_is_good (v18 m s + v18 m' s') 18).1
      rw [← e2] at hg
      have hr := decMv_range (raB m s m' s') (raN m s m' s') 18
      refine ⟨hg, by unfold I64; omega, ?_⟩
      rw [rAll]
      rw [if_pos gd, if_pos ho]
    · intro ho
      rw [rAll]
      rw [if_pos gd, if_neg (by rw [ho]; decide)]
  · have hb := fun w => RAdd_bad m s m' s' w i (by obtain ⟨a, b, _⟩ := good_range g; unfold I64; omega) j1 j2 (fun h => gd h.2)
    refine ⟨0, 0, false, hb, fun h => (by cases h), fun _ => ?_⟩
    rw [rAll]
    rw [if_neg gd]

set_option maxHeartbeats 20000000 in
set_option maxRecDepth 100000 in
theorem RAddAll_any (b o : Nat) (c : Nat) (l : List (Int × Int)) (w : World) (hl : l.length < 1000000) (hI : ∀ d ∈ l, I64 d.1 ∧ I64 d.2) (hb : b < w.heap.size) (hd : DecsAt b o l w) :
    Calls Try.prog 10 #[.slice (some ⟨b, o, none⟩) l.length c] w fun e w' => e = .returned (.tuple #[decV (rAll 0 0 l).1.1 (rAll 0 0 l).1.2, .bool (rAll 0 0 l).2]) ∧ Ext w w' := by
  unfold decV
  have h1 : DecIn w.heap.size 0 0 ((w.alloc (.cells #[.int .i64 0, .int .i64 0] 25)).alloc (.cells #[.int .i64 0, .int .i64 0] 25)) := heap_at2a _ _ _
  have h2 : DecIn (w.heap.size + 1) 0 0 ((w.alloc (.cells #[.int .i64 0, .int .i64 0] 25)).alloc (.cells #[.int .i64 0, .int .i64 0] 25)) := heap_at2b _ _ _
  have hx : Ext w ((w.alloc (.cells #[.int .i64 0, .int .i64 0] 25)).alloc (.cells #[.int .i64 0, .int .i64 0] 25)) := ((Ext.refl _).alloc _).alloc _
  go_enter Try.func10, Try.ntmps10
  go_wp2_with fail
  generalize (w.alloc (.cells #[.int .i64 0, .int .i64 0] 25)).alloc (.cells #[.int .i64 0, .int .i64 0] 25) = W at *
  go_loopw [5, 6] (fun q i wr => ∃ (i' : Nat) (m s : Int), q = .bool true ∧ i = .int .i64 i' ∧ i' ≤ l.length ∧ goodB m s = true ∧ I64 m ∧ Hid (rAll m s (l.drop i') = rAll 0 0 l) ∧ DecIn w.heap.size 0 0 wr ∧ DecIn (w.heap.size + 1) m s wr ∧ Ext w wr) (fun _ i _ => l.length - (intOf i).toNat)
  case atStart => exact ⟨0, 0, 0, rfl, rfl, Nat.zero_le _, good_zero, by unfold I64; omega, Lib.hid rfl, h1, h2, hx⟩
  case round =>
    obtain ⟨i', m, s, rfl, rfl, hi, hg, hm, hsp, g1, g2, hxr⟩ := hrel
    clear h1 h2 hx
    by_cases hlt : i' < l.length
    · obtain ⟨q0, q1⟩ := hd i' hlt
      have r0 := (hxr.cell (p := ⟨b, o + i' * 2, none⟩) hb).trans q0
      have r1 := (hxr.cell (p := ⟨b, o + i' * 2 + 1, none⟩) hb).trans q1
      obtain ⟨jM, jS⟩ := hI l[i'] (List.getElem_mem hlt)
      have hdr : l.drop i' = l[i'] :: l.drop (i' + 1) := List.drop_eq_getElem_cons hlt
      have hsp2 := hsp.out
      rw [hdr] at hsp2
      obtain ⟨m', s', hd'⟩ : ∃ m' s', l[i'] = (m', s') := ⟨_, _, rfl⟩
      rw [hd'] at hsp2 jM jS r0 r1
      dsimp only at jM jS r0 r1
      clear q0 q1 hdr hsp hd'
      obtain ⟨m3, s3, ok, A, hok, hno⟩ := RAdd_step m s m' s' (l.drop (i' + 1)) hg hm jM jS
      obtain ⟨c0, c1⟩ := g2.cells
      obtain ⟨f0, f1⟩ := g2.free
      have hne : b ≠ w.heap.size + 1 := by omega
      replace hok := Lib.hid hok
      replace hno := Lib.hid hno
      replace hsp2 := Lib.hid hsp2
      go_wp2_with fail
      go_cut [5] (fun q wx => q = .bool ok ∧ DecIn w.heap.size 0 0 wx ∧ DecIn (w.heap.size + 1) m3 s3 wx ∧ Ext w wx)
      case first =>
        go_region_with (first
          | (go_at_call 27; (with_reducible refine (A _).mono ?_); rintro e wd ⟨rfl, xd⟩; have Y := (by first | exact (Ext.refl wr).drew.trans xd | exact xd : Ext wr wd); have n2 := g2.ext Y; have p0 := n2.cells.1; have p1 := n2.cells.2; have f2 := n2.free.1; have f3 := n2.free.2))
        all_goals
          go_wp2_with fail
          go_meet
          case rel => exact ⟨rfl, (heap_setDec _ _ _ _ _ (by omega)).trans (g1.ext Y), n2.stored m3 s3, ext_setDec (hxr.trans Y) (Nat.le_succ _) _ _⟩
      case rest =>
        obtain ⟨rfl, k1, k2, xc⟩ := hcut
        clear c0 c1 f0 f1 r0 r1
        cases ok
        · obtain ⟨c0, c1⟩ := k1.cells
          obtain ⟨f0, f1⟩ := k1.free
          have HV := Lib.hid (hno.out rfl)
          clear hno hok
          go_wp2_with fail
          have hv := HV.out
          rw [hsp2.out] at hv
          rw [hv]
          refine bodyPost_ret (v := .tuple #[decV 0 0, .bool false]) ?_ rfl ⟨rfl, ext_setDec xc (Nat.le_refl _) _ _⟩
          obtain ⟨t0, t1⟩ := (k1.stored 0 0).cells
          change (results Try.f10 _).run Try.prog (setDec wc w.heap.size 0 0) = .ok _ (setDec wc w.heap.size 0 0)
          generalize setDec wc w.heap.size 0 0 = W' at *
          simp [results, Try.results10, go_sem, t0, t1, decV]
        · obtain ⟨c0, c1⟩ := k2.cells
          have HV := Lib.hid (hok.out rfl)
          clear hno hok
          go_wp2_with fail
          go_roundw
          case rel =>
            obtain ⟨v1, v2, v3⟩ := HV.out
            rw [hsp2.out] at v3
            exact ⟨i' + 1, m3, s3, rfl, rfl, hlt, v1, v2, Lib.hid v3.symm, k1, k2, xc⟩
          case measure => simp only [intOf]; omega
    · obtain rfl : i' = l.length := by omega
      have hsp2 := hsp.out
      rw [List.drop_length] at hsp2
      have HS : Hid (((m, s), true) = rAll 0 0 l) := hsp2
      clear hsp hsp2
      obtain ⟨c0, c1⟩ := g2.cells
      obtain ⟨d0, d1⟩ := g1.cells
      obtain ⟨f0, f1⟩ := g1.free
      go_wp2_with fail
      rw [← HS.out]
      refine bodyPost_ret (v := .tuple #[decV m s, .bool true]) ?_ rfl ⟨rfl, ext_setDec hxr (Nat.le_refl _) _ _⟩
      obtain ⟨t0, t1⟩ := (g1.stored m s).cells
      change (results Try.f10 _).run Try.prog (setDec wr w.heap.size m s) = .ok _ (setDec wr w.heap.size m s)
      generalize setDec wr w.heap.size m s = W' at *
      simp [results, Try.results10, go_sem, t0, t1, decV]
end Go.Proofs.Ythfihlapgoglaaa
