/- The walk of sum.Add. -/
import Derived.Test.YthfihlapgoglaaaNumG
import Derived.Deep.DeepCutAuto
namespace Go.Proofs.Ythfihlapgoglaaa
open Go.RowKit

/-- The sum of two decimals, as Add reckons it. -/
def addN (m1 s1 m2 s2 : Int) : Nat := nplusN (decide (m1 < 0)) (scN m1 s1 (max s1 s2)) (decide (m2 < 0)) (scN m2 s2 (max s1 s2))
def addB (m1 s1 m2 s2 : Int) : Bool := nplusS (decide (m1 < 0)) (scN m1 s1 (max s1 s2)) (decide (m2 < 0)) (scN m2 s2 (max s1 s2))
def addM (m1 s1 m2 s2 : Int) : Int := decMv (addB m1 s1 m2 s2) (addN m1 s1 m2 s2) (max s1 s2).toNat
def addS (m1 s1 m2 s2 : Int) : Int := decSv (addN m1 s1 m2 s2) (max s1 s2).toNat
def addOk (m1 s1 m2 s2 : Int) : Bool := decOk (addN m1 s1 m2 s2) (max s1 s2).toNat
/-- The sum of a row of decimals, from one on. -/
def sumL : Int → Int → List (Int × Int) → (Int × Int) × Bool
  | m, s, [] => ((m, s), true)
  | m, s, d :: l => if goodB d.1 d.2 then (if addOk m s d.1 d.2 then sumL (addM m s d.1 d.2) (addS m s d.1 d.2) l else ((0, 0), false)) else ((0, 0), false)

theorem sumL_cons (m s : Int) (d : Int × Int) (l : List (Int × Int)) : sumL m s (d :: l) = if goodB d.1 d.2 then (if addOk m s d.1 d.2 then sumL (addM m s d.1 d.2) (addS m s d.1 d.2) l else ((0, 0), false)) else ((0, 0), false) := rfl
theorem decMv_range (neg : Bool) (N s : Nat) : -9223372036854775807 ≤ decMv neg N s ∧ decMv neg N s ≤ 9223372036854775807 := by
  unfold decMv decOk
  split
  · rename_i h; simp at h; cases neg <;> simp <;> omega
  · omega
theorem decSv_range (N s : Nat) : 0 ≤ decSv N s ∧ decSv N s ≤ 18 := by
  unfold decSv decOk
  split
  · rename_i h; simp at h; omega
  · omega

/-- The decimals of a slice, from an address on. -/
def DecsAt (b o : Nat) (l : List (Int × Int)) (w : World) : Prop := ∀ i (h : i < l.length), w.cell? ⟨b, o + i * 2, none⟩ = some (.int .i64 l[i].1) ∧ w.cell? ⟨b, o + i * 2 + 1, none⟩ = some (.int .i64 l[i].2)

theorem TwoIn.alloc {w : World} {b c : Nat} {m s n t : Int} {w0 : World} (h : TwoIn w b c m s n t w0) (o : Obj) : TwoIn w b c m s n t (w0.alloc o) := ⟨h.1.alloc o, h.2.1.ext ((Ext.refl _).alloc o), h.2.2.ext ((Ext.refl _).alloc o)⟩
theorem TwoIn.alloc_drew {w : World} {b c : Nat} {m s n t : Int} {w0 : World} (h : TwoIn w b c m s n t w0) {o : Obj} : TwoIn w b c m s n t (w0.alloc o).drew := ⟨(h.1.alloc o).drew, h.2.1.ext ((Ext.refl _).alloc o).drew, h.2.2.ext ((Ext.refl _).alloc o).drew⟩
theorem alloc_dec (X : World) : DecIn X.heap.size 0 0 (X.alloc (.cells #[.int .i64 0, .int .i64 0] 25)) := heap_last _ _
theorem two_keepx {w : World} {b c : Nat} {m s n t : Int} {w0 : World} (h : TwoIn w b c m s n t w0) {k : Nat} {args : Array Value} {v : Value} (C : Calls Try.prog k args w0 fun e w' => e = .returned v ∧ Ext w0 w') :
    Calls Try.prog k args w0 fun e w' => e = .returned v ∧ Ext w0 w' ∧ TwoIn w b c m s n t w' ∧ w'.cell? ⟨b, 0, none⟩ = some (.int .i64 m) ∧ w'.cell? ⟨b, 1, none⟩ = some (.int .i64 s) ∧ w'.cell? ⟨c, 0, none⟩ = some (.int .i64 n) ∧ w'.cell? ⟨c, 1, none⟩ = some (.int .i64 t) ∧ True :=
  C.mono (fun _ _ ⟨he, x⟩ => ⟨he, x, ⟨h.1.trans x, h.2.1.ext x, h.2.2.ext x⟩, (h.2.1.ext x).cells.1, (h.2.1.ext x).cells.2, (h.2.2.ext x).cells.1, (h.2.2.ext x).cells.2, trivial⟩)

set_option maxHeartbeats 20000000 in
set_option maxRecDepth 100000 in
theorem Add_any (b o : Nat) (c : Nat) (l : List (Int × Int)) (w : World) (hl : l.length < 1000000) (hI : ∀ d ∈ l, I64 d.1 ∧ I64 d.2) (hb : b < w.heap.size) (hd : DecsAt b o l w) :
    Calls Try.prog 9 #[.slice (some ⟨b, o, none⟩) l.length c] w fun e w' => e = .returned (.tuple #[decV (sumL 0 0 l).1.1 (sumL 0 0 l).1.2, .bool (sumL 0 0 l).2]) ∧ Ext w w' := by
  unfold decV
  go_enter Try.func9, Try.ntmps9
  go_wp2_with fail
  have hx : Ext w ((w.alloc (.cells #[.int .i64 0, .int .i64 0] 25)).alloc (.cells #[.int .i64 0, .int .i64 0] 25)) := ((Ext.refl _).alloc _).alloc _
  have h1 : DecIn w.heap.size 0 0 ((w.alloc (.cells #[.int .i64 0, .int .i64 0] 25)).alloc (.cells #[.int .i64 0, .int .i64 0] 25)) := heap_at2a _ _ _
  have h2 : DecIn (w.heap.size + 1) 0 0 ((w.alloc (.cells #[.int .i64 0, .int .i64 0] 25)).alloc (.cells #[.int .i64 0, .int .i64 0] 25)) := heap_at2b _ _ _
  generalize (w.alloc (.cells #[.int .i64 0, .int .i64 0] 25)).alloc (.cells #[.int .i64 0, .int .i64 0] 25) = W at *
  go_loopw [12] (fun i wr => ∃ (i' : Nat) (m s : Int), i = .int .i64 i' ∧ i' ≤ l.length ∧ (-9223372036854775807 ≤ m ∧ m ≤ 9223372036854775807) ∧ (0 ≤ s ∧ s ≤ 18) ∧ Hid (sumL m s (l.drop i') = sumL 0 0 l) ∧ DecIn w.heap.size 0 0 wr ∧ DecIn (w.heap.size + 1) m s wr ∧ Ext w wr) (fun i _ => l.length - (intOf i).toNat)
  case atStart => exact ⟨0, 0, 0, rfl, Nat.zero_le _, by omega, by omega, Lib.hid rfl, h1, h2, hx⟩
  case round =>
    obtain ⟨i', m, s, rfl, hi, hm, hs, hsp, g1, g2, hxr⟩ := hrel
    clear h1 h2 hx
    by_cases hlt : i' < l.length
    · obtain ⟨q0, q1⟩ := hd i' hlt
      have r0 := (hxr.cell (p := ⟨b, o + i' * 2, none⟩) hb).trans q0
      have r1 := (hxr.cell (p := ⟨b, o + i' * 2 + 1, none⟩) hb).trans q1
      obtain ⟨jM, jS⟩ := hI l[i'] (List.getElem_mem hlt)
      have hdr : l.drop i' = l[i'] :: l.drop (i' + 1) := List.drop_eq_getElem_cons hlt
      have hsp2 := hsp.out
      rw [hdr] at hsp2
      rw [sumL_cons] at hsp2
      clear q0 q1 hdr hsp
      have hne : w.heap.size + 1 < wr.heap.size := (Array.getElem?_eq_some_iff.1 g2).1
      generalize l[i'].1 = m' at *
      generalize l[i'].2 = s' at *
      have G := fun w => Good_any m' s' w jM jS
      unfold decV at G
      by_cases hg : goodB m' s' = true
      · rw [hg] at G
        rw [if_pos hg] at hsp2
        have HS := Lib.hid hsp2
        clear hsp2
        have hgr : 0 ≤ s' ∧ s' ≤ 18 ∧ m' ≠ -9223372036854775808 := by unfold goodB at hg; simp at hg; omega
        have jM' : -9223372036854775807 ≤ m' ∧ m' ≤ 9223372036854775807 := by unfold I64 at jM; omega
        have D1 := fun w => numberOf_sc m s (max s s') w hm hs.1 (by omega) (by omega)
        have D2 := fun w => numberOf_sc m' s' (max s s') w jM' hgr.1 (by omega) (by omega)
        have l1 := scN_lt m s (max s s') hm hs.1 (by omega)
        have l2 := scN_lt m' s' (max s s') jM' hgr.1 (by omega)
        have D3 : ∀ w, Calls Try.prog 25 #[.agg #[.bool (decide (m < 0)), .int .u64 (wd (scN m s (max s s')) 0 : Int), .int .u64 (wd (scN m s (max s s')) 1 : Int), .int .u64 (wd (scN m s (max s s')) 2 : Int), .int .u64 (wd (scN m s (max s s')) 3 : Int), .int .i64 (max s s')], .agg #[.bool (decide (m' < 0)), .int .u64 (wd (scN m' s' (max s s')) 0 : Int), .int .u64 (wd (scN m' s' (max s s')) 1 : Int), .int .u64 (wd (scN m' s' (max s s')) 2 : Int), .int .u64 (wd (scN m' s' (max s s')) 3 : Int), .int .i64 (max s s')]] w fun e w' => e = .returned (.agg #[.bool (addB m s m' s'), .int .u64 (wd (addN m s m' s') 0 : Int), .int .u64 (wd (addN m s m' s') 1 : Int), .int .u64 (wd (addN m s m' s') 2 : Int), .int .u64 (wd (addN m s m' s') 3 : Int), .int .i64 (max s s')]) ∧ Ext w w' := fun w => nplus_any _ _ (scN m s (max s s')) (scN m' s' (max s s')) (max s s') w (by unfold W256; omega) (by unfold W256; omega) (by unfold W256; omega)
        have l3 : addN m s m' s' < W256 := by
          unfold addN nplusN W256
          split
          · omega
          · split <;> omega
        have D4 : ∀ w, Calls Try.prog 26 #[.agg #[.bool (addB m s m' s'), .int .u64 (wd (addN m s m' s') 0 : Int), .int .u64 (wd (addN m s m' s') 1 : Int), .int .u64 (wd (addN m s m' s') 2 : Int), .int .u64 (wd (addN m s m' s') 3 : Int), .int .i64 (max s s')]] w fun e w' => e = .returned (.tuple #[.agg #[.int .i64 (addM m s m' s'), .int .i64 (addS m s m' s')], .bool (addOk m s m' s')]) ∧ Ext w w' := fun w => by
          have := dec_any (addB m s m' s') (addN m s m' s') (max s s').toNat w l3 (by omega)
          rw [show (((max s s').toNat : Nat) : Int) = max s s' from by omega] at this
          exact this
        have zM : -9223372036854775807 ≤ addM m s m' s' ∧ addM m s m' s' ≤ 9223372036854775807 := decMv_range _ _ _
        have zS : 0 ≤ addS m s m' s' ∧ addS m s m' s' ≤ 18 := decSv_range _ _
        generalize addM m s m' s' = m3 at *
        generalize addS m s m' s' = s3 at *
        generalize addOk m s m' s' = ok at *
        generalize addB m s m' s' = n3 at *
        generalize addN m s m' s' = N3 at *
        generalize scN m s (max s s') = N1 at *
        generalize scN m' s' (max s s') = N2 at *
        generalize decide (m < 0) = n1 at *
        generalize decide (m' < 0) = n2 at *
        clear hg hgr jM jS jM' l1 l2 l3
        go_wp2_with fail
        refine (G _).mono ?_
        rintro e w1 ⟨rfl, x1⟩
        have xa := (Ext.refl wr).alloc (.cells #[.int .i64 m', .int .i64 s'] 25)
        have k6 : DecIn wr.heap.size m' s' w1 := DecIn.ext (heap_last _ _) x1
        have x2 := xa.trans x1
        replace g1 := g1.ext x2
        replace g2 := g2.ext x2
        replace hxr := hxr.trans x2
        clear r0 r1 x1 xa G
        obtain ⟨c0, c1⟩ := g2.cells
        obtain ⟨d0, d1⟩ := k6.cells
        go_wp2_with fail
        have F1 := fun w0 (h : TwoIn w1 (w.heap.size + 1) wr.heap.size m s m' s' w0) => two_keepx h (D1 w0)
        have F2 := fun w0 (h : TwoIn w1 (w.heap.size + 1) wr.heap.size m s m' s' w0) => two_keepx h (D2 w0)
        have F3 := fun w0 (h : TwoIn w1 (w.heap.size + 1) wr.heap.size m s m' s' w0) => two_keepx h (D3 w0)
        have F4 := fun w0 (h : TwoIn w1 (w.heap.size + 1) wr.heap.size m s m' s' w0) => two_keepx h (D4 w0)
        clear D1 D2 D3 D4
        have hP0 : TwoIn w1 (w.heap.size + 1) wr.heap.size m s m' s' w1 := ⟨Ext.refl w1, g2, k6⟩
        have hP : TwoIn w1 (w.heap.size + 1) wr.heap.size m s m' s' w1.drew := ⟨(Ext.refl w1).drew, g2.ext (Ext.refl w1).drew, k6.ext (Ext.refl w1).drew⟩
        have nx1 := World.new_ne w1 _ c0
        have nx2 := World.new_ne w1 _ d0
        go_cut [8, 9] (fun t8 t9 wx => ∃ nb, t8 = .pointer (some ⟨nb, 0, none⟩) ∧ t9 = .bool ok ∧ w.heap.size + 1 < nb ∧ DecIn nb m3 s3 wx ∧ Ext w1 wx)
        case first =>
          go_region_held3 (fun w' => w'.cell? ⟨w.heap.size + 1, 0, none⟩ = some (.int .i64 m) ∧ w'.cell? ⟨w.heap.size + 1, 1, none⟩ = some (.int .i64 s) ∧ w'.cell? ⟨wr.heap.size, 0, none⟩ = some (.int .i64 m') ∧ w'.cell? ⟨wr.heap.size, 1, none⟩ = some (.int .i64 s')) (first | exact ⟨p0, p1, q0, q1⟩ | exact ⟨c0, c1, d0, d1⟩ | go_keep) (first
            | (go_at_call 24; (with_reducible refine (F1 _ ?h).mono ?_); (case h => first | exact H | exact hP | exact H.alloc _ | exact hP.alloc _ | exact TwoIn.alloc_drew hP0); rintro e wy ⟨rfl, x, H, p0, p1, q0, q1, -⟩; (try have k8 := k8.ext x); (try have k8 := (alloc_dec _).ext x); (try have k8 := ((alloc_dec _).ext (Ext.refl _).drew).ext x); (try have k8c := k8.cells); (try have k8f := k8.free); have ny1 := World.new_ne wy _ p0; have ny2 := World.new_ne wy _ q0; have hz := H.1.size)
            | (go_at_call 24; (with_reducible refine (F2 _ ?h).mono ?_); (case h => first | exact H | exact hP | exact H.alloc _ | exact hP.alloc _ | exact TwoIn.alloc_drew hP0); rintro e wy ⟨rfl, x, H, p0, p1, q0, q1, -⟩; (try have k8 := k8.ext x); (try have k8 := (alloc_dec _).ext x); (try have k8 := ((alloc_dec _).ext (Ext.refl _).drew).ext x); (try have k8c := k8.cells); (try have k8f := k8.free); have ny1 := World.new_ne wy _ p0; have ny2 := World.new_ne wy _ q0; have hz := H.1.size)
            | (go_at_call 25; (with_reducible refine (F3 _ ?h).mono ?_); (case h => first | exact H | exact hP | exact H.alloc _ | exact hP.alloc _ | exact TwoIn.alloc_drew hP0); rintro e wy ⟨rfl, x, H, p0, p1, q0, q1, -⟩; (try have k8 := k8.ext x); (try have k8 := (alloc_dec _).ext x); (try have k8 := ((alloc_dec _).ext (Ext.refl _).drew).ext x); (try have k8c := k8.cells); (try have k8f := k8.free); have ny1 := World.new_ne wy _ p0; have ny2 := World.new_ne wy _ q0; have hz := H.1.size)
            | (go_at_call 26; (with_reducible refine (F4 _ ?h).mono ?_); (case h => first | exact H | exact hP | exact H.alloc _ | exact hP.alloc _ | exact TwoIn.alloc_drew hP0); rintro e wy ⟨rfl, x, H, p0, p1, q0, q1, -⟩; (try have k8 := k8.ext x); (try have k8 := (alloc_dec _).ext x); (try have k8 := ((alloc_dec _).ext (Ext.refl _).drew).ext x); (try have k8c := k8.cells); (try have k8f := k8.free); have ny1 := World.new_ne wy _ p0; have ny2 := World.new_ne wy _ q0; have hz := H.1.size))
          all_goals
            have hz0 := x2.size
            go_wp2_with fail
            go_meet
            case rel =>
              first
                | exact ⟨_, rfl, rfl, by omega, k8.stored m3 s3, ext_setDec H.1 (by omega) _ _⟩
                | exact ⟨_, rfl, rfl, by omega, heap_last _ _, H.1.alloc _⟩
        case rest =>
          obtain ⟨nb, rfl, rfl, hnb, k8, xc⟩ := hcut
          replace g1 := g1.ext xc
          replace g2 := g2.ext xc
          replace hxr := hxr.trans xc
          clear hP hP0 F1 F2 F3 F4 nx1 nx2 c0 c1 d0 d1 k6
          obtain ⟨e0, e1⟩ := k8.cells
          cases ok
          · obtain ⟨c0, c1⟩ := g1.cells
            obtain ⟨f0, f1⟩ := g1.free
            go_wp2_with fail
            have hv := HS.out
            rw [if_neg (by decide)] at hv
            rw [← hv]
            refine bodyPost_ret (v := .tuple #[decV 0 0, .bool false]) ?_ rfl ⟨rfl, ext_setDec hxr (Nat.le_refl _) _ _⟩
            obtain ⟨t0, t1⟩ := (g1.stored 0 0).cells
            change (results Try.f9 _).run Try.prog (setDec wc w.heap.size 0 0) = .ok _ (setDec wc w.heap.size 0 0)
            generalize setDec wc w.heap.size 0 0 = W' at *
            simp [results, Try.results9, go_sem, t0, t1, decV]
          · obtain ⟨c0, c1⟩ := g2.cells
            obtain ⟨f0, f1⟩ := g2.free
            go_wp2_with fail
            go_roundw
            case rel =>
              have hv := HS.out
              rw [if_pos rfl] at hv
              refine ⟨i' + 1, m3, s3, rfl, hlt, zM, zS, Lib.hid hv, (heap_setDec _ _ _ _ _ (by omega)).trans g1, g2.stored m3 s3, ext_setDec hxr (Nat.le_succ _) _ _⟩
            case measure => simp only [intOf]; omega
      · replace hg : goodB m' s' = false := by simpa using hg
        rw [hg] at G
        rw [hg, if_neg (by decide)] at hsp2
        have HS := Lib.hid hsp2
        clear hsp2 hg
        go_wp2_with fail
        refine (G _).mono ?_
        rintro e w1 ⟨rfl, x1⟩
        have x2 := ((Ext.refl wr).alloc (.cells #[.int .i64 m', .int .i64 s'] 25)).trans x1
        replace g1 := g1.ext x2
        replace hxr := hxr.trans x2
        obtain ⟨c0, c1⟩ := g1.cells
        obtain ⟨f0, f1⟩ := g1.free
        clear r0 r1
        go_wp2_with fail
        rw [← HS.out]
        refine bodyPost_ret (v := .tuple #[decV 0 0, .bool false]) ?_ rfl ⟨rfl, ext_setDec hxr (Nat.le_refl _) _ _⟩
        obtain ⟨t0, t1⟩ := (g1.stored 0 0).cells
        change (results Try.f9 _).run Try.prog (setDec w1 w.heap.size 0 0) = .ok _ (setDec w1 w.heap.size 0 0)
        generalize setDec w1 w.heap.size 0 0 = W' at *
        simp [results, Try.results9, go_sem, t0, t1, decV]
    · obtain rfl : i' = l.length := by omega
      have hsp2 := hsp.out
      rw [List.drop_length] at hsp2
      have HS : Hid (((m, s), true) = sumL 0 0 l) := hsp2
      clear hsp hsp2
      obtain ⟨c0, c1⟩ := g2.cells
      obtain ⟨d0, d1⟩ := g1.cells
      obtain ⟨f0, f1⟩ := g1.free
      go_wp2_with fail
      rw [← HS.out]
      refine bodyPost_ret (v := .tuple #[decV m s, .bool true]) ?_ rfl ⟨rfl, ext_setDec hxr (Nat.le_refl _) _ _⟩
      obtain ⟨t0, t1⟩ := (g1.stored m s).cells
      change (results Try.f9 _).run Try.prog (setDec wr w.heap.size m s) = .ok _ (setDec wr w.heap.size m s)
      generalize setDec wr w.heap.size m s = W' at *
      simp [results, Try.results9, go_sem, t0, t1, decV]

theorem Add_nil (w : World) :
    Calls Try.prog 9 #[.slice none 0 0] w fun e w' => e = .returned (.tuple #[decV 0 0, .bool true]) ∧ Ext w w' := by
  go_enter Try.func9, Try.ntmps9
  go_wp2_with fail
  refine wp_loop_rounds 1 ?_
  rw [rounds_succ]
  go_wp2_with fail
  exact bodyPost_ret (v := .tuple #[decV 0 0, .bool true]) (by simp [results, Try.results9, go_sem, decV]) rfl ⟨rfl, ((Ext.refl _).alloc _).alloc _⟩
end Go.Proofs.Ythfihlapgoglaaa
