/- The law BatchLimits answers true: the walk. -/
import Derived.Test.YtjjnmefihdjglaaBatLimP
import Derived.Test.YtjjnmefihdjglaaBatK
namespace Go.Proofs.Ytjjnmefihdjglaa
open Go.RowKit

set_option maxHeartbeats 16000000 in
set_option maxRecDepth 100000 in
theorem BatchLimits_main (fams points : Int) (spoil : Bool) (w : World) (hf : 0 ≤ fams ∧ fams ≤ 255) (hp : 0 ≤ points ∧ points ≤ 255) :
    Calls Try.prog 7 #[.int .u8 fams, .int .u8 points, .bool spoil] w fun e w' => e = .returned (.bool true) ∧ Ext w w' := by
  obtain ⟨n, hn⟩ : ∃ n : Nat, fams % 34 = (n : Int) := ⟨(fams % 34).toNat, by have := Int.emod_nonneg fams (show (34 : Int) ≠ 0 by omega); omega⟩
  obtain ⟨m, hm⟩ : ∃ m : Nat, points % 124 = (m : Int) := ⟨(points % 124).toNat, by have := Int.emod_nonneg points (show (124 : Int) ≠ 0 by omega); omega⟩
  have hn34 : n < 34 := by have := Int.emod_lt_of_pos fams (show (0 : Int) < 34 by omega); omega
  have hm124 : m < 124 := by have := Int.emod_lt_of_pos points (show (0 : Int) < 124 by omega); omega
  have t1 : fams.tmod 34 = (n : Int) := by rw [Int.tmod_eq_emod_of_nonneg hf.1]; exact hn
  have t2 : points.tmod 124 = (m : Int) := by rw [Int.tmod_eq_emod_of_nonneg hp.1]; exact hm
  have w1 : IntKind.u8.wrap (n : Int) = (n : Int) := IntWalk.u8_in _ (by omega)
  have w2 : IntKind.u8.wrap (m : Int) = (m : Int) := IntWalk.u8_in _ (by omega)
  have w3 : IntKind.i64.wrap (n : Int) = (n : Int) := IntWalk.i64_in _ (by omega)
  have w4 : IntKind.i64.wrap (m : Int) = (m : Int) := IntWalk.i64_in _ (by omega)
  go_enter Try.func7, Try.ntmps7
  go_wp2_with fail
  (with_reducible refine (known10_any _).mono ?_)
  rintro e wA ⟨rfl, xA⟩
  go_wp2_with fail
  obtain ⟨TB, hTB⟩ : ∃ TB, wA.heap.size = TB := ⟨_, rfl⟩
  have gB : BatIn TB ⟨#[116]⟩ (.slice none 0 0) (wA.alloc (.cells #[.string ⟨#[116]⟩, .slice none 0 0] 54)) := by rw [← hTB]; exact heap_last _ _
  have xB := xA.alloc (.cells #[.string ⟨#[116]⟩, .slice none 0 0] 54)
  have hTw : w.heap.size ≤ TB := by have := xA.size; omega
  rw [hTB]
  go_loopw [10] (fun i wr => ∃ (k : Nat) (L : List FamD) (v : Value), i = .int .i64 k ∧ k ≤ n ∧ Hid (L = (List.range k).map fdL) ∧ OwnF (TB + 1) v L wr ∧ BatIn TB ⟨#[116]⟩ v wr ∧ Ext w wr) (fun i _ => n - (intOf i).toNat)
  case atStart => exact ⟨0, [], _, rfl, Nat.zero_le _, Lib.hid rfl, OwnF.nil _ _, gB, xB⟩
  case round =>
    clear gB xB
    obtain ⟨k, L, v, rfl, hk, hL, hO, gB, xr⟩ := hrel
    obtain ⟨av, cv, hv⟩ := hO.1.form
    subst hv
    have hlen : Hid (L.length = k) := Lib.hid (by rw [hL.out]; simp)
    by_cases hlt : k < n
    · have i1 : (k : Int) < (n : Int) := by omega
      have i2 : IntKind.u8.wrap (k : Int) = (k : Int) := IntWalk.u8_in _ (by omega)
      have i3 : IntKind.u8.wrap (48 + (k : Int)) = 48 + (k : Int) := IntWalk.u8_in _ (by omega)
      obtain ⟨d0, d1⟩ := gB.cells
      have cv1 := conv1 wr (48 + (k : Int))
      have enm := nmL_is k (by omega)
      have xb := (Ext.refl wr).alloc (.cells #[.int .u8 (48 + (k : Int))] 5)
      have xa := xb.alloc (.cells #[.string (nmL k), .int .i64 0, .string ⟨#[]⟩, .string ⟨#[]⟩, .slice none 0 0] 26)
      have hcell : FamIn (wr.heap.size + 1) (nmL k) 0 ⟨#[]⟩ ⟨#[]⟩ (.slice none 0 0) ((wr.alloc (.cells #[.int .u8 (48 + (k : Int))] 5)).alloc (.cells #[.string (nmL k), .int .i64 0, .string ⟨#[]⟩, .string ⟨#[]⟩, .slice none 0 0] 26)) := by
        rw [← heap_size_alloc wr]; exact heap_last _ _
      obtain ⟨w3, hw3⟩ : ∃ w3, (wr.alloc (.cells #[.int .u8 (48 + (k : Int))] 5)).alloc (.cells #[.string (nmL k), .int .i64 0, .string ⟨#[]⟩, .string ⟨#[]⟩, .slice none 0 0] 26) = w3 := ⟨_, rfl⟩
      rw [hw3] at xa hcell
      have hs3 : wr.heap.size + 2 = w3.heap.size := by rw [← hw3]; simp
      replace hw3 := Lib.hid hw3
      have hO3 := hO.ext xa
      have hlt3 := hO.1.lt
      replace gB := gB.ext xa
      have hTr : TB + 1 ≤ wr.heap.size := by have := (Array.getElem?_eq_some_iff.1 gB).1; have := d0; exact Nat.succ_le_of_lt (World.block_lt_of_cell? _ _ d0)
      have hc : ∀ i, i < 1 → ∀ j, j < 5 → w3.cell? ((⟨wr.heap.size + 1, 0, none⟩ : Addr).add (i * 5 + j)) = (FamD.cs (fdL k))[j]? := by
        intro i hi j hj
        obtain rfl : i = 0 := by omega
        rw [Addr.add_lit, Lib.cell_of_heap hcell]
        match j, hj with
        | 0, _ => rfl
        | 1, _ => rfl
        | 2, _ => rfl
        | 3, _ => rfl
        | 4, _ => rfl
      go_wp2_with (at_builtin; (try rw [enm]); (try rw [hw3.out]); refine wpList_append_structs w3 rfl _ _ rfl tyFam (fun _ => rfl) famC_one (by decide) (TB + 1) _ L.length (fun i => L[i]?.getD FamD.zero) rfl hO3.1 ?c2 ⟨wr.heap.size + 1, 0, none⟩ 1 1 (fun _ => fdL k) rfl hc ?c3 ?c4 (.inr (by decide)) ?_)
      case c2 => omega
      case c3 => have := hlen.out; omega
      case c4 => have := hlen.out; omega
      intro v' w4 h1 h2 h3
      have hb3 : FamAt (TB + 1) (.slice av L.length cv) w3 (fdL k) := ⟨⟨fun h => absurd h (by simp [fdL]), by intro p hp; simp [fdL] at hp⟩, ⟨by intro x hx; simp [fdL] at hx, by intro p hp; simp [fdL] at hp⟩⟩
      have hO4 := hO3.push hb3 h1 h2 h3
      obtain ⟨L', hL'⟩ : ∃ L', L ++ [fdL k] = L' := ⟨_, rfl⟩
      have hmk : Hid (L' = (List.range (k + 1)).map fdL) := Lib.hid (by rw [← hL', hL.out, List.range_succ, List.map_append]; rfl)
      rw [hL'] at hO4
      have x4 : Ext w w4 := grown_ext' (xr.trans xa) h2 (Nat.le_refl _) (fun g hg => by have := (hlt3 g hg).1; omega)
      replace gB := gB.grown h2 (fun x hx => by have := (hlt3 x hx).1; omega)
      clear h1 h2 h3 hO3 hO hc hcell d0 d1 hlen hb3 hL hL'
      obtain ⟨a5, c5, hv5⟩ := hO4.1.form
      subst hv5
      have fr := fun o => gB.free o
      have gB' := gB.set1 (.slice a5 L'.length c5)
      have hO5 := hO4.setC TB 1 (.slice a5 L'.length c5) (by omega)
      have x8 := x4.setC TB 1 (.slice a5 L'.length c5) (by omega)
      obtain ⟨d0, d1⟩ := gB.cells
      clear gB hO4
      go_wp2_with fail
      go_roundw
      case rel => exact ⟨k + 1, L', _, rfl, hlt, hmk, hO5, gB', x8⟩
      case measure => simp only [intOf]; omega
    · obtain rfl : k = n := by omega
      clear hlen
      go_wp2_with fail
      have zTB := World.block_lt_of_cell? _ _ gB.cells.1
      by_cases hk0 : k = 0
      · subst hk0
        have hL0 : L = [] := by rw [hL.out]; rfl
        subst hL0
        have CK : ∀ W, Calls Try.prog 20 #[.agg #[.string ⟨#[116]⟩, .slice av 0 cv]] W fun e w' => e = .returned (.int .i64 0) ∧ Ext W w' := fun W => by
          have := Check_any ⟨#[116]⟩ av cv [] W (by decide) (by decide) (FamsA.nil _ _) (by intro f hf; cases hf)
          rw [show checkB ⟨#[116]⟩ (List.map FamD.y []) = 0 from by decide +kernel] at this
          exact this
        have PO : ∀ W, Calls Try.prog 21 #[.agg #[.string ⟨#[116]⟩, .slice av 0 cv]] W fun e w' => e = .returned (.int .i64 0) ∧ Ext W w' := fun W => by
          have := Points_any ⟨#[116]⟩ av cv [] W (by decide) (FamsA.nil _ _) (by intro f hf; cases hf)
          exact this
        have gB2 : BatIn TB ⟨#[116]⟩ (.slice av 0 cv) wr := gB
        obtain ⟨d0, d1⟩ := gB2.cells
        clear hO hL gB
        have fin : ∀ (b : Bool), b = spoil → b = spoil := fun _ h => h
        clear fin
        refine wp_loop_rounds 1 ?_
        rw [rounds_succ]
        cases spoil <;> (by_cases hm0 : (0 : Int) < (m : Int)) <;>
        · go_wp2_with fail
          (with_reducible refine (CK _).mono ?_)
          rintro e w5 ⟨rfl, x5⟩
          have gB3 := gB2.ext x5
          obtain ⟨e0, e1⟩ := gB3.cells
          go_wp2_with fail
          (with_reducible refine (PO _).mono ?_)
          rintro e w6 ⟨rfl, x6⟩
          go_wp2_with fail
          go_ret
          exact ⟨rfl, (xr.trans x5).trans x6⟩
      · have hkp : 0 < k := by omega
        obtain ⟨g, cap, hgv, hg1, hrow⟩ := hO.1.row (by rw [hL.out]; simp; omega)
        have hlen : L.length = k := by rw [hL.out]; simp
        rw [hlen] at hrow gB hgv
        injection hgv with e1 _ e3
        subst e1 e3
        have hI := LimI.start (TB := TB) hL.out hrow (by omega)
        clear hO hrow hL hlen
        have hk3 : (0 : Int) < (k : Int) := by omega
        go_loopw [11] (fun i wl => ∃ (x : Nat) (d : Nat → FamD), i = .int .i64 x ∧ x ≤ m ∧ LimI TB g k x d wl ∧ BatIn TB ⟨#[116]⟩ (.slice (some ⟨g, 0, none⟩) k cv) wl ∧ Ext w wl) (fun i _ => m - (intOf i).toNat)
        case atStart => exact ⟨0, fdL, rfl, Nat.zero_le _, hI, gB, xr⟩
        case round =>
          clear gB hI xr
          obtain ⟨x, d, rfl, hx, hI, gB, xr⟩ := hrel
          obtain ⟨d0, d1⟩ := gB.cells
          by_cases hlt2 : x < m
          · have i1 : (x : Int) < (m : Int) := by omega
            obtain ⟨q, hq⟩ : ∃ q, x % k = q := ⟨_, rfl⟩
            have hqk : q < k := by rw [← hq]; exact Nat.mod_lt _ hkp
            have i2 : (x : Int).tmod (k : Int) = (q : Int) := by rw [← hq]; exact Int.ofNat_tmod x k ▸ rfl
            have i3 : (q : Int) < (k : Int) := by omega
            have i4 : ¬ (k : Int) = 0 := by omega
            have c4 := hI.row.cell q 4 (.slice (d q).pa (d q).ps.length (d q).pc) hqk (by decide) rfl
            go_wp2_with fail
            go_region
            all_goals
              have xa := ((Ext.refl wr).alloc (.cells #[.slice none 0 0, .int .i64 0, .bool false, .int .i64 0, .int .i64 0, .int .i64 0, .int .i64 0, .bool true, .int .i64 (x : Int)] 35)).drew
              have hcell : PtIn wr.heap.size (.slice none 0 0) 0 false 0 0 0 0 true x ((wr.alloc (.cells #[.slice none 0 0, .int .i64 0, .bool false, .int .i64 0, .int .i64 0, .int .i64 0, .int .i64 0, .bool true, .int .i64 (x : Int)] 35)).drew) := heap_last _ _
              obtain ⟨w7, hw7⟩ : ∃ w7, (wr.alloc (.cells #[.slice none 0 0, .int .i64 0, .bool false, .int .i64 0, .int .i64 0, .int .i64 0, .int .i64 0, .bool true, .int .i64 (x : Int)] 35)).drew = w7 := ⟨_, rfl⟩
              rw [hw7] at xa hcell
              replace hw7 := Lib.hid hw7
              have hI3 := hI.ext xa
              have gB3 := gB.ext xa
              have hpl : (d q).ps.length ≤ x := by rw [(hI.is q hqk).2.2.2.2, List.length_map]; exact tmL_len_le _ _ _
              have hTw7 : TB + 1 ≤ w7.heap.size := by have := xa.size; have := World.block_lt_of_cell? _ _ d0; exact Nat.le_trans this xa.size
              have hc : ∀ i, i < 1 → ∀ j, j < 9 → w7.cell? ((⟨wr.heap.size, 0, none⟩ : Addr).add (i * 9 + j)) = (PtD.cs (ptL x))[j]? := by
                intro i hi j hj
                obtain rfl : i = 0 := by omega
                rw [Addr.add_lit, Lib.cell_of_heap hcell]
                match j, hj with
                | 0, _ => rfl
                | 1, _ => rfl
                | 2, _ => rfl
                | 3, _ => rfl
                | 4, _ => rfl
                | 5, _ => rfl
                | 6, _ => rfl
                | 7, _ => rfl
                | 8, _ => rfl
              go_wp2_with (at_builtin; (try rw [hw7.out]); refine wpList_append_structs w7 rfl _ _ rfl tyPt (fun _ => rfl) ptC_one (by decide) (TB + 1) _ (d q).ps.length (fun y => (d q).ps[y]?.getD PtD.zero) rfl (hI3.own q hqk) ?c2 ⟨wr.heap.size, 0, none⟩ 1 1 (fun _ => ptL x) rfl hc ?c3 ?c4 (.inr (by decide)) ?_)
              case c2 => exact hTw7
              case c3 => omega
              case c4 => omega
              intro v' w8 h1 h2 h3
              obtain ⟨a5, c5, hv5⟩ := h1.form
              subst hv5
              have hI5 := hI3.next hkp hq h1 h2 h3
              have hrow := hI3.row.keep (h2.block g hI3.row.lt (fun e => hI3.ne q hqk g e.symm rfl))
              have e4 := hrow.cell q 4 (.slice (d q).pa (d q).ps.length (d q).pc) hqk (by decide) rfl
              have fr := fun o => hrow.free o
              have gB5 := (gB3.grown h2 (fun b hb => by have := ((hI3.own q hqk).lt b hb).1; omega)).setC g (q * 5 + 4) (.slice a5 ((d q).ps.length + 1) c5) (by have := hI.lt; omega)
              have x8 := (grown_ext' (xr.trans xa) h2 (Nat.le_refl _) (fun b hb => by have := ((hI3.own q hqk).lt b hb).1; omega)).setC g (q * 5 + 4) (.slice a5 ((d q).ps.length + 1) c5) (by have := hI.lt; omega)
              clear h1 h2 h3 hrow hc hcell hI3 gB3 hI gB d0 d1 c4
              go_wp2_with fail
              go_roundw
              case rel => exact ⟨x + 1, _, rfl, hlt2, hI5, gB5, x8⟩
              case measure => simp only [intOf]; omega
          · obtain rfl : x = m := by omega
            have hkl : ((List.range k).map d).length = k := by simp
            have hsm : ∀ f ∈ (List.range k).map d, f.y.Sm := fun f hf => by
              have h1 : f.y ∈ ((List.range k).map d).map FamD.y := List.mem_map_of_mem hf
              rw [hI.ys] at h1
              exact famsL_sm k x (by omega) _ h1
            have FA := hI.row.fams (fun j hj => hI.pts (by omega) j hj)
            have CK : ∀ W, Ext wr W → Calls Try.prog 20 #[.agg #[.string ⟨#[116]⟩, .slice (some ⟨g, 0, none⟩) k cv]] W fun e w' => e = .returned (.int .i64 (if k ≤ 30 ∧ x ≤ 120 then 0 else 14)) ∧ Ext W w' := fun W hx => by
              have := Check_any ⟨#[116]⟩ (some ⟨g, 0, none⟩) cv ((List.range k).map d) W (by omega) (by decide) (FA.ext hx) hsm
              rw [hkl, hI.ys, famsL_check k x hn34 hkp hm124] at this
              exact this
            have PO : ∀ W, Ext wr W → Calls Try.prog 21 #[.agg #[.string ⟨#[116]⟩, .slice (some ⟨g, 0, none⟩) k cv]] W fun e w' => e = .returned (.int .i64 (x : Int)) ∧ Ext W w' := fun W hx => by
              have := Points_any ⟨#[116]⟩ (some ⟨g, 0, none⟩) cv ((List.range k).map d) W (by omega) (FA.ext hx) hsm
              rw [hkl, hI.ys, famsL_pts k hkp x] at this
              exact this
            have k0 : ¬ (k : Int) = 0 := by omega
            clear hk hx hn t1 t2 hm w1 w3 hTB xA zTB
            by_cases hs1 : spoil = true ∧ 1 < k
            · obtain ⟨rfl, h1k⟩ := hs1
              have k1 : (k : Int) > 1 := by omega
              obtain ⟨d', hr', hp', hy'⟩ := hI.spoil h1k (by omega)
              have FA' := hr'.fams hp'
              have hkl' : ((List.range k).map d').length = k := by simp
              have hsm' : ∀ f ∈ (List.range k).map d', f.y.Sm := fun f hf => by
                have h1 : f.y ∈ ((List.range k).map d').map FamD.y := List.mem_map_of_mem hf
                rw [hy'] at h1
                exact famsS_sm k x (by omega) _ h1
              have gB' := gB.setC g ((k - 1) * 5) (.string ⟨#[102, 48]⟩) (by have := hI.lt; omega)
              have xs := xr.setC g ((k - 1) * 5) (.string ⟨#[102, 48]⟩) (by have := hI.lt; omega)
              have e4 : wr.cell? ⟨g, (k - 1) * 5, none⟩ = some (.string (d (k - 1)).nm) := hI.row.cell (k - 1) 0 _ (by omega) (by decide) rfl
              have fr := fun o => hI.row.free o
              obtain ⟨ws, hws⟩ : ∃ ws, wr.setCell ⟨g, (k - 1) * 5, none⟩ (.string ⟨#[102, 48]⟩) = ws := ⟨_, rfl⟩
              rw [hws] at gB' xs FA'
              have CK' : ∀ W, Ext ws W → Calls Try.prog 20 #[.agg #[.string ⟨#[116]⟩, .slice (some ⟨g, 0, none⟩) k cv]] W fun e w' => e = .returned (.int .i64 19) ∧ Ext W w' := fun W hx => by
                have := Check_any ⟨#[116]⟩ (some ⟨g, 0, none⟩) cv ((List.range k).map d') W (by omega) (by decide) (FA'.ext hx) hsm'
                rw [hkl', hy', famsS_check k x hn34 h1k] at this
                exact this
              have PO' : ∀ W, Ext ws W → Calls Try.prog 21 #[.agg #[.string ⟨#[116]⟩, .slice (some ⟨g, 0, none⟩) k cv]] W fun e w' => e = .returned (.int .i64 (x : Int)) ∧ Ext W w' := fun W hx => by
                have := Points_any ⟨#[116]⟩ (some ⟨g, 0, none⟩) cv ((List.range k).map d') W (by omega) (FA'.ext hx) hsm'
                rw [hkl', hy', famsS_pts k x hkp] at this
                exact this
              replace hws := Lib.hid hws
              obtain ⟨e0, e1⟩ := gB'.cells
              have km : (k : Int) - 1 = ((k - 1 : Nat) : Int) := by omega
              have km2 : ((k - 1 : Nat) : Int) < (k : Int) := by omega
              obtain ⟨kk, hkk⟩ : ∃ kk, k - 1 = kk := ⟨_, rfl⟩
              rw [hkk] at km km2 e4 hws
              clear CK PO FA FA' hr' hp' hy' hsm hsm' hkl hkl' hI gB hkk
              by_cases hk30 : (k : Int) > 30 <;> by_cases hm120 : (x : Int) > 120
              all_goals
                go_wp2_with fail
                rw [hws.out]
                (with_reducible refine (CK' _ (Ext.refl _)).mono ?_)
                rintro e w5 ⟨rfl, x5⟩
                have gB3 := gB'.ext x5
                obtain ⟨e0, e1⟩ := gB3.cells
                go_wp2_with fail
                (with_reducible refine (PO' _ x5).mono ?_)
                rintro e w6 ⟨rfl, x6⟩
                go_wp2_with fail
                go_ret
                exact ⟨rfl, (xs.trans x5).trans x6⟩
            · have hs2 : spoil = false ∨ (spoil = true ∧ ¬ (k : Int) > 1) := by
                cases spoil
                · exact .inl rfl
                · exact .inr ⟨rfl, fun h => hs1 ⟨rfl, by omega⟩⟩
              clear hs1 FA hsm hkl hI
              rcases hs2 with rfl | ⟨rfl, k1⟩
              all_goals
                by_cases hk30 : k ≤ 30
                · by_cases hm120 : x ≤ 120
                  · rw [if_pos ⟨hk30, hm120⟩] at CK
                    have j1 : ¬ (k : Int) > 30 := by omega
                    have j2 : ¬ (x : Int) > 120 := by omega
                    go_wp2_with fail
                    (with_reducible refine (CK _ (Ext.refl _)).mono ?_)
                    rintro e w5 ⟨rfl, x5⟩
                    have gB3 := gB.ext x5
                    obtain ⟨e0, e1⟩ := gB3.cells
                    go_wp2_with fail
                    (with_reducible refine (PO _ x5).mono ?_)
                    rintro e w6 ⟨rfl, x6⟩
                    go_wp2_with fail
                    go_ret
                    exact ⟨rfl, (xr.trans x5).trans x6⟩
                  · rw [if_neg (fun h => hm120 h.2)] at CK
                    have j1 : ¬ (k : Int) > 30 := by omega
                    have j2 : (x : Int) > 120 := by omega
                    go_wp2_with fail
                    (with_reducible refine (CK _ (Ext.refl _)).mono ?_)
                    rintro e w5 ⟨rfl, x5⟩
                    have gB3 := gB.ext x5
                    obtain ⟨e0, e1⟩ := gB3.cells
                    go_wp2_with fail
                    (with_reducible refine (PO _ x5).mono ?_)
                    rintro e w6 ⟨rfl, x6⟩
                    go_wp2_with fail
                    go_ret
                    exact ⟨rfl, (xr.trans x5).trans x6⟩
                · rw [if_neg (fun h => hk30 h.1)] at CK
                  have j1 : (k : Int) > 30 := by omega
                  try (exfalso; omega)
                  all_goals
                    go_wp2_with fail
                    (with_reducible refine (CK _ (Ext.refl _)).mono ?_)
                    rintro e w5 ⟨rfl, x5⟩
                    have gB3 := gB.ext x5
                    obtain ⟨e0, e1⟩ := gB3.cells
                    go_wp2_with fail
                    (with_reducible refine (PO _ x5).mono ?_)
                    rintro e w6 ⟨rfl, x6⟩
                    go_wp2_with fail
                    go_ret
                    exact ⟨rfl, (xr.trans x5).trans x6⟩
end Go.Proofs.Ytjjnmefihdjglaa
