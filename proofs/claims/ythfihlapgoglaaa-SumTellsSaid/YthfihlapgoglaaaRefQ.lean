/- The walk of the document's quotient. -/
import Derived.Test.YthfihlapgoglaaaRefZ
import Derived.Test.YthfihlapgoglaaaRefX
import Derived.Deep.DeepCutAuto
namespace Go.Proofs.Ythfihlapgoglaaa
open Go.RowKit

theorem OwnD.ext {base : Nat} {v : Value} {l : List Nat} {w w' : World} (h : OwnD base v l w) (x : Ext w w') : OwnD base v l w' := by
  obtain ⟨hz, h⟩ := h
  refine ⟨hz, h.imp id (fun ⟨g, cap, cur, e, hb, hg, hr⟩ => ⟨g, cap, cur, e, hb, ?_, hr⟩)⟩
  exact (x.heap (Array.getElem?_eq_some_iff.1 hg).1).trans hg

theorem step_copy_dig {ops : Array Oper} {o : Oper} {a : Act} {w : World} {K : Act → World → Prop} {Q : Exit → Act → World → Prop} {E : Prop} (hgd : o.guard = none) (s x : Operand)
    (ho : o.op = .call { callee := .builtin .append, args := #[s, x], argTypes := #[53, 53] }) (v : Value) (l : List Nat) (hs : a.eval s = .slice none 0 0) (hx : a.eval x = v) (h : DigV v l w) (hl : l.length < 100000)
    (hn : ∀ v' w', OwnD w.heap.size v' l w' → Ext w w' → K (a.put o.dst v') w') :
    if Region.wanted o (yielded ops a.tmps) = true then Oper.wp Try.prog o a w K Q else E := by
  obtain ⟨v', w', hr, h2, h3⟩ := run_copy_dig w o.type v l h hl
  exact step_append_run hgd s x ho _ _ hs hx v' w' hr (hn v' w' h2 h3)
theorem step_one_own {ops : Array Oper} {o : Oper} {a : Act} {w : World} {K : Act → World → Prop} {Q : Exit → Act → World → Prop} {E : Prop} (w0 : World) (hgd : o.guard = none) (s x : Operand)
    (ho : o.op = .call { callee := .builtin .append, args := #[s, x], argTypes := #[53, 53] }) (base g d : Nat) (v : Value) (l : List Nat) (hs : a.eval s = v) (hx : a.eval x = .slice (some ⟨g, 0, none⟩) 1 1) (h : OwnD base v l w) (hg : w.cell? ⟨g, 0, none⟩ = some (.int .u8 (d : Int))) (hl : l.length < 100000) (hbase : base ≤ w.heap.size) (hw0 : Ext w0 w) (hb0 : w0.heap.size ≤ base)
    (hn : ∀ v' w', OwnD base v' (l ++ [d]) w' → Ext w0 w' → K (a.put o.dst v') w') :
    if Region.wanted o (yielded ops a.tmps) = true then Oper.wp Try.prog o a w K Q else E := by
  obtain ⟨v', w', hr, h2, h3, _⟩ := run_one_own w w0 o.type base g d v l h hg hl hbase hw0 hb0
  exact step_append_run hgd s x ho _ _ hs hx v' w' hr (hn v' w' h2 h3)

theorem digs_len_le {A B : Nat} (h : A ≤ B) : (digs A).length ≤ (digs B).length := by
  rcases Nat.lt_or_ge (digs B).length (digs A).length with h2 | h2
  · have := digs_mono_len h2; omega
  · exact h2
theorem digs_len_step {R B d : Nat} (h : R < B) (hd : d < 10) : (digs (R * 10 + d)).length ≤ (digs B).length + 1 := by
  refine digs_length ?_
  have h1 := valD_lt (digs B) (digs_lt B)
  rw [valD_digs] at h1
  rw [Nat.pow_succ]
  omega

set_option maxHeartbeats 16000000 in
set_option maxRecDepth 100000 in
theorem quotient_dig (v u : Value) (l : List Nat) (B : Nat) (w : World) (hv : DigV v l w) (hu : DigV u (digs B) w) (hl : l.length < 100) (hm : (digs B).length < 100) (dl : ∀ d ∈ l, d < 10) (hB : 0 < B) :
    Calls Try.prog 38 #[v, u] w fun e w' => (∃ q r, e = .returned (.tuple #[q, r]) ∧ DigV q (digs (valD l / B)) w' ∧ DigV r (digs (valD l % B)) w') ∧ Ext w w' := by
  obtain ⟨p, c0, rfl⟩ := hv.form
  go_enter Try.func38, Try.ntmps38
  go_wp2_with fail
  go_loopw [6, 7, 8] (fun q r x wr => ∃ (k : Nat) (ql : List Nat) (R : Nat), x = .int .i64 k ∧ k ≤ l.length ∧ OwnD w.heap.size q ql wr ∧ ql.length = k ∧ (∀ d ∈ ql, d < 10) ∧ DigV r (digs R) wr ∧ R < B ∧ Hid (valD ql * B + R = valD (l.take k)) ∧ Ext w wr) (fun _ _ x _ => l.length - (intOf x).toNat)
  case atStart => exact ⟨0, [], 0, rfl, Nat.zero_le _, OwnD.nil _ _, rfl, by simp, .inl ⟨digs_zero, rfl⟩, hB, Lib.hid (by simp [valD]), Ext.refl _⟩
  case round =>
    obtain ⟨k, ql, R, rfl, hk, hq, hql, hqd, hr, hRB, hsum, xr⟩ := hrel
    by_cases hin : k < l.length
    · have hRl : (digs R).length ≤ (digs B).length := by
        rcases Nat.lt_or_ge (digs B).length (digs R).length with h | h
        · have := digs_mono_len h; omega
        · exact h
      obtain ⟨bA, oA, capA, eA, hcA, hbA, cellA⟩ := (hv.ext xr).pos (by omega)
      injection eA with eA1 _ eA2
      subst eA1
      subst eA2
      have cA := (hv.ext xr).at2 k hin
      obtain ⟨d, hd⟩ : ∃ d, l[k] = d := ⟨_, rfl⟩
      have hd10 : d < 10 := by rw [← hd]; exact dl _ (List.getElem_mem _)
      have htk := valD_take_succ l k hin
      rw [hd] at cA htk
      have hvr := hv.ext xr
      have cAx : ∀ {W : World}, Ext wr W → W.cell? ⟨bA, oA + k, none⟩ = some (.int .u8 (d : Int)) := fun x => (x.cell (p := ⟨bA, oA + k, none⟩) hbA).trans cA
      have TR : ∀ v' W, DigV v' (digs R ++ [d]) W → (∀ g, v'.ownBlock = some g → wr.heap.size ≤ g) → Calls Try.prog 52 #[v'] W fun e w' => (∃ v2, e = .returned v2 ∧ DigV v2 (digs (R * 10 + d)) w' ∧ ∀ g, v2.ownBlock = some g → wr.heap.size ≤ g) ∧ W = w' := fun v' W h hb => by
        have := trim_from wr.heap.size v' _ W h (by rw [List.length_append, List.length_singleton]; omega) hb
        rw [trimD_is _ (by
          intro x hx
          rcases List.mem_append.1 hx with hx | hx
          · exact digs_lt R x hx
          · rw [List.mem_singleton] at hx; omega), valD_snoc, valD_digs] at this
        exact this
      go_upto_region 5 with fail
      go_cut [7] (fun r2 wx => DigV r2 (digs (R * 10 + d)) wx ∧ (∀ g, r2.ownBlock = some g → wr.heap.size ≤ g) ∧ Ext wr wx)
      case first =>
        go_region_law (first
          | (refine step_copy_dig rfl _ _ rfl _ (digs R) rfl rfl ?h ?hl ?_; (case h => first | exact hr | exact hr.ext (Ext.refl _).drew | exact hr.ext ((Ext.refl _).drew.alloc _) | exact hr.ext ((Ext.refl _).alloc _).drew); (case hl => omega); intro v1 w1 ho1 x1; (have cA1 := cAx (by first | exact (Ext.refl _).drew.trans x1 | exact ((Ext.refl _).alloc _).drew.trans x1 | exact ((Ext.refl _).drew.alloc _).trans x1 : Ext wr w1)))
          | (refine step_one_own wr rfl _ _ rfl wr.heap.size _ d _ (digs R) rfl rfl ?own ?cell ?hl ?hb ?hw ?h0 ?_; (case own => first | exact ho1 | exact World.ownsRow.alloc ho1 _); (case cell => first | exact (Lib.cell_of_heap (heap_last _ _) _).trans rfl); (case hl => omega); (case hb => first | exact x1.size | exact Nat.le_trans x1.size (by rw [heap_size_alloc]; exact Nat.le_succ _)); (case hw => first | exact ((Ext.refl _).drew.trans x1).alloc _); (case h0 => first | exact Nat.le_refl _); intro v2 w2 ho2 x2)
          | (refine step_one_own wr rfl _ _ rfl (wr.alloc (.cells #[.int .u8 (d : Int)] 5)).heap.size _ d _ (digs R) rfl rfl ?own ?cell ?hl ?hb ?hw ?h0 ?_; (case own => first | exact ho1); (case cell => first | exact (x1.cell (by show wr.heap.size < (wr.alloc (.cells #[.int .u8 (d : Int)] 5)).heap.size; rw [heap_size_alloc]; exact Nat.lt_succ_self _)).trans ((Lib.cell_of_heap (heap_last wr _) _).trans rfl)); (case hl => omega); (case hb => first | exact x1.size); (case hw => first | exact ((Ext.refl wr).alloc _).drew.trans x1); (case h0 => first | (rw [heap_size_alloc]; exact Nat.le_succ _)); intro v2 w2 ho2 x2)
          | (go_simp; go_at_call 52; (with_reducible refine (TR _ _ ?h ?h2).mono ?_); (case h => exact ho2.dig); (case h2 => first | exact fun g hg => (ho2.lt g hg).1 | exact fun g hg => Nat.le_trans (by rw [heap_size_alloc]; exact Nat.le_succ _) (ho2.lt g hg).1); rintro e w3 ⟨⟨v3, rfl, hv3, hb3⟩, rfl⟩; dsimp only))
        all_goals
          go_wp2_with fail
          go_meet
          case rel => exact ⟨hv3, hb3, x2⟩
      case rest =>
        obtain ⟨hr2, hb2, x5⟩ := hcut
        have hqb : ∀ g, u6.ownBlock = some g → g < wr.heap.size := fun g hg => (hq.lt g hg).2
        have hH5 := x5.size
        obtain ⟨H0, hH⟩ : ∃ H0, wr.heap.size = H0 := ⟨_, rfl⟩
        rw [hH] at hb2 hqb hH5
        have xw := xr.trans x5
        have hq5 := hq.ext x5
        have hu5 := hu.ext xw
        have hX : R * 10 + d < 10 * B := by omega
        have hdl := digs_len_step hRB hd10
        clear cAx TR hvr cA cellA hr hq
        go_wp2_with fail
        go_loopw [7, 9] (fun r n wq => ∃ (c R2 : Nat), n = .int .u8 c ∧ Hid (c * B + R2 = R * 10 + d) ∧ c ≤ 9 ∧ R2 ≤ R * 10 + d ∧ DigV r (digs R2) wq ∧ (∀ g, r.ownBlock = some g → H0 ≤ g) ∧ Ext wc wq) (fun _ n _ => 10 - (intOf n).toNat)
        case atStart => exact ⟨0, R * 10 + d, rfl, Lib.hid (by omega), by omega, Nat.le_refl _, hr2, hb2, Ext.refl _⟩
        case round =>
          obtain ⟨c, R2, rfl, hcs, hc9, hR2, hr3, hb3, xq⟩ := hrel
          have hL := digs_len_le hR2
          have CM := dcompare_any u7 u (digs R2) (digs B) wr hr3 (hu5.ext xq) (by omega) (by omega)
          rw [cmpDg_digs] at CM
          by_cases hge : B ≤ R2
          · have hL2 := digs_len_le hge
            have hcv : 0 ≤ cmpN R2 B := by unfold cmpN; rw [if_neg (by omega)]; split <;> omega
            have hcs2 := hcs.out
            have hc2 : c + 1 ≤ 9 := by
              rcases Nat.lt_or_ge c 9 with h | h
              · exact h
              · have : 9 * B ≤ c * B := Nat.mul_le_mul_right _ h
                omega
            have hcs3 : Hid ((c + 1) * B + (R2 - B) = R * 10 + d) := Lib.hid (by rw [Nat.add_mul, Nat.one_mul]; omega)
            have MI := fun W (h1 : DigV u7 (digs R2) W) (h2 : DigV u (digs B) W) => minus_dig u7 u (digs R2) (digs B) W h1 h2 (by omega) hL2 (digs_lt _) (digs_lt _) (by rw [valD_digs, valD_digs]; exact hge)
            rw [valD_digs, valD_digs] at MI
            generalize cmpN R2 B = cv at *
            clear hcs hcs2
            go_wp2_with fail
            (with_reducible refine CM.mono ?_)
            rintro e w6 ⟨rfl, x6⟩
            go_wp2_with fail
            (with_reducible refine (MI _ (hr3.ext x6) ((hu5.ext xq).ext x6)).mono ?_)
            rintro e w7 ⟨⟨v7, rfl, hv7, hb7⟩, x7⟩
            have hs7 := (xq.trans x6).size
            go_wp2_with fail
            go_roundw
            case rel => exact ⟨c + 1, R2 - B, rfl, hcs3, hc2, by omega, hv7, fun g hg => by have := hb7 g hg; omega, (xq.trans x6).trans x7⟩
            case measure => simp only [intOf]; omega
          · have hcv : cmpN R2 B = -1 := by unfold cmpN; rw [if_pos (by omega)]
            rw [hcv] at CM
            have hcs2 := hcs.out
            have hs2 := hsum.out
            have hsum2 : Hid (valD (ql ++ [c]) * B + R2 = valD (l.take (k + 1))) := Lib.hid (by
              rw [valD_snoc, htk, ← hs2, Nat.add_mul, Nat.mul_right_comm]
              omega)
            clear hcs hcs2 hs2 hsum
            go_wp2_with fail
            (with_reducible refine CM.mono ?_)
            rintro e w6 ⟨rfl, x6⟩
            have hq6 := (hq5.ext xq).ext x6
            have xw6 := (xw.trans xq).trans x6
            have hr6 := hr3.ext x6
            go_wp2_with (at_builtin; refine wpList_one_grown _ rfl _ _ rfl w.heap.size _ c _ ql rfl rfl ?own ?cell ?hl ?hb ?_)
            case own => exact World.ownsRow.alloc hq6 _
            case cell => exact (Lib.cell_of_heap (heap_last _ _) _).trans rfl
            case hl => omega
            case hb => exact Nat.le_trans xw6.size (by rw [heap_size_alloc]; exact Nat.le_succ _)
            intro v8 w8 hv8 hg8
            have x8 : Ext w w8 := grown_ext (World.ownsRow.alloc hq6 _) hg8 (Nat.le_trans xw6.size (by rw [heap_size_alloc]; exact Nat.le_succ _)) (xw6.alloc _) (Nat.le_refl _)
            have hr8 := DigV.grown (hr6.ext ((Ext.refl _).alloc _)) hg8 (fun g hg he => by
              have h1 := hb3 g hg
              have h2 := hqb g he.symm
              omega)
            go_wp2_with fail
            go_roundw
            case rel => exact ⟨k + 1, ql ++ [c], R2, rfl, hin, hv8, by rw [List.length_append, List.length_singleton, hql], fun x hx => (List.mem_append.1 hx).elim (hqd x) (fun h => by rw [List.mem_singleton] at h; omega), hr8, by omega, hsum2, x8⟩
            case measure => simp only [intOf]; omega
    · obtain rfl : k = l.length := by omega
      have hs2 := hsum.out
      rw [List.take_of_length_le (Nat.le_refl _)] at hs2
      have hdiv : valD ql = valD l / B := by
        rw [← hs2, Nat.add_comm, Nat.add_mul_div_right _ _ hB, Nat.div_eq_of_lt hRB, Nat.zero_add]
      have hmod : R = valD l % B := by
        rw [← hs2, Nat.add_comm, Nat.add_mul_mod_self_right, Nat.mod_eq_of_lt hRB]
      have C := trim_any u6 ql wr hq.dig (by omega)
      rw [trimD_is ql hqd, hdiv] at C
      rw [hmod] at hr
      clear hsum hs2
      go_wp2_with fail
      (with_reducible refine C.mono ?_)
      rintro e w1 ⟨⟨v1, rfl, hv1⟩, rfl⟩
      go_wp2_with fail
      go_ret2
      exact ⟨⟨_, _, rfl, hv1, hr⟩, xr⟩
end Go.Proofs.Ythfihlapgoglaaa
