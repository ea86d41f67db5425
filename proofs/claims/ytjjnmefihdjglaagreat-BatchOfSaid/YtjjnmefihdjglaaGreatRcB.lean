import Derived.Test.YtjjnmefihdjglaaGreatRcA
namespace Go.Proofs.YtjjnmefihdjglaaGreat
open Go.RowKit
def famsGo : Option ByteArray → List FamY → Bool
 | _, [] => true
 | none, f :: l => goodF f && famsGo (some f.nm) l
 | some x, f :: l => goodF f && (decide (cmpS x f.nm < 0) && famsGo (some f.nm) l)
theorem famsGo_some : ∀ (l : List FamY) (x : ByteArray), famsGo (some x) l = (l.all goodF && risesN (x :: l.map FamY.nm))
 | [], x => by simp [famsGo, risesN]
 | f :: l, x => by
   rw [famsGo, famsGo_some l f.nm, List.all_cons, List.map_cons, risesN]
   cases goodF f <;> cases decide (cmpS x f.nm < 0) <;> cases l.all goodF <;> rfl
theorem famsGo_none (l : List FamY) : famsGo none l = (l.all goodF && risesN (l.map FamY.nm)) := by
 cases l with
 | nil => rfl
 | cons f l =>
   rw [famsGo, famsGo_some l f.nm, List.all_cons, List.map_cons]
   cases goodF f <;> rfl
set_option maxHeartbeats 16000000 in
set_option maxRecDepth 100000 in
theorem rCheck_any (tn : ByteArray) (a : Option Addr) (c : Nat) (l : List FamD) (w : World) (hl : l.length ≤ 1000000) (ht : tn.size ≤ 1000000) (hA : FamsA a l w) (hs : ∀ f ∈ l, f.y.Sm) :
  Calls Tryz.prog 16 #[.agg #[.string tn, .slice a l.length c]] w fun e w' => e = .returned (.int .i64 (checkB tn (l.map FamD.y))) ∧ Ext w w' := by
 have T := fun W => rTenant_any tn W (by omega)
 have PO := fun W (x : Ext w W) => rPoints_any a c l W hl (hA.ext x) hs
 obtain ⟨R, hR⟩ : ∃ R, checkB tn (l.map FamD.y) = R := ⟨_, rfl⟩
 rw [hR]
 replace hR : (if tenB tn = true ∧ famsGo none (l.map FamD.y) = true then (if l.length ≤ 30 ∧ ptsN (l.map FamD.y) ≤ 120 then 0 else 14) else 19) = R := by
  rw [← hR]
  unfold checkB
  rw [famsGo_none, List.length_map]
  simp only [Bool.and_eq_true]
 have hpb : ptsN (l.map FamD.y) ≤ 1000 * l.length := by
  have := ptsN_le (l.map FamD.y) (fun f hf => by obtain ⟨g, hg, rfl⟩ := List.mem_map.1 hf; exact hs g hg)
  rwa [List.length_map] at this
 obtain ⟨n, hn⟩ : ∃ n, ptsN (l.map FamD.y) = n := ⟨_, rfl⟩
 rw [hn] at hR PO hpb
 obtain ⟨G, hG⟩ : ∃ G, famsGo none (l.map FamD.y) = G := ⟨_, rfl⟩
 rw [hG] at hR
 obtain ⟨W, hW⟩ : ∃ W, w.alloc (.cells #[.string tn, .slice a l.length c] 27) = W := ⟨_, rfl⟩
 have x1 : Ext w W := by rw [← hW]; exact (Ext.refl w).alloc _
 have g1 : BatIn w.heap.size tn (.slice a l.length c) W := by rw [← hW]; exact heap_last _ _
 replace hW := Lib.hid hW
 obtain ⟨B, hB⟩ : ∃ B, w.heap.size = B := ⟨_, rfl⟩
 rw [hB] at g1
 obtain ⟨c0, c1⟩ := g1.cells
 generalize tenB tn = b1 at *
 clear hn
 go_enter Tryz.func16, Tryz.ntmps16
 go_wp2_with fail
 rw [hW.out]
 (with_reducible refine (T _).mono ?_)
 rintro e w1 ⟨rfl, x2⟩
 cases b1
 ·rw [if_neg (by simp)] at hR
  replace hR := Lib.hid hR
  go_wp2_with fail
  go_ret
  exact ⟨retI hR.out, x1.trans x2⟩
 replace g1 := g1.ext x2
 have z1 := x1.trans x2
 clear c0 c1 x1 x2 T hW
 replace hR := Lib.hid hR
 go_wp2_with fail
 go_loopw [3] (fun i wr => ∃ k : Nat, i = .int .i64 k ∧ k ≤ l.length ∧ Hid (famsGo (((l.map FamD.y).take k).getLast?.map FamY.nm) ((l.map FamD.y).drop k) = G) ∧ Ext w1 wr) (fun i _ => l.length - (intOf i).toNat)
 case atStart => exact ⟨0, rfl, Nat.zero_le _, Lib.hid hG, Ext.refl _⟩
 case round =>
  obtain ⟨k, rfl, hk, hg, xr⟩ := hrel
  clear hG
  have gr := g1.ext xr
  replace hA := hA.ext (z1.trans xr)
  obtain ⟨c0, c1⟩ := gr.cells
  by_cases hlt : k < l.length
  ·obtain ⟨b, o, rfl, hbr, hL⟩ := hA.1 (by omega)
   have ok1 := hA.2 _ (List.getElem_mem hlt)
   have sm1 := hs _ (List.getElem_mem hlt)
   obtain ⟨p0, p1, p2, p3, p4⟩ := hL k hlt
   have hd := hg.out
   have hlt' : k < (l.map FamD.y).length := by simpa using hlt
   have htl : (((l.map FamD.y).take (k + 1)).getLast?.map FamY.nm) = some l[k].nm := by
    rw [List.take_add_one, List.getElem?_eq_getElem hlt', Option.toList_some, List.getLast?_append]
    simp [FamD.y]
   rw [List.drop_eq_getElem_cons hlt', show (l.map FamD.y)[k] = l[k].y from by simp] at hd
   have RF := fun W (x : Ext wr W) => rFamily_any l[k] W (ok1.ext x) sm1
   have i0 : (k : Int) < (l.length : Int) := by omega
   obtain ⟨gk, hgk⟩ : ∃ gk, goodF l[k].y = gk := ⟨_, rfl⟩
   rw [hgk] at RF
   cases gk
   ·have HV : Hid (19 = R) := Lib.hid (by
     have hGf : G = false := by
      rw [← hd]
      cases ((l.map FamD.y).take k).getLast?.map FamY.nm <;> (rw [famsGo, hgk]; rfl)
     rw [← hR.out, hGf, if_neg (by simp)])
    clear hd hg htl hR PO
    generalize l[k] = p at *
    unfold FamD.v at RF
    clear hA hL ok1 sm1 hgk hs
    go_wp2_with fail
    refine wp_region_held_drew (S := Ext wr) (by kernel_rfl) ((Ext.refl wr).drew) (fun hHeld => ?_)
    refine wpAnyH_take (i := 0) (oi := ?oim117) (v := ?vm117) ?him117 (by kernel_rfl) (by kernel_rfl) (by kernel_rfl) ?hQm117 (Or.inl ⟨?hwm117, ?hym117⟩) hHeld ?restm117
    case him117 => simp only [List.getElem?_toArray, List.getElem?_cons_zero]; rfl
    case hQm117 => exact fun _ _ _ h => h
    case hwm117 => rfl
    case hym117 => (intro w9 hSw; obtain ⟨c0, c1⟩ := (gr.ext hSw).cells; go_simp; (try with_reducible rfl))
    case restm117 =>
    try simp only [Act.put, List.setIfInBounds_toArray, List.set_cons_zero, List.set_cons_succ]
    refine wpAnyH_take (i := 1) (oi := ?oim118) (v := ?vm118) ?him118 (by kernel_rfl) (by kernel_rfl) (by kernel_rfl) ?hQm118 (Or.inl ⟨?hwm118, ?hym118⟩) hHeld ?restm118
    case him118 => simp only [List.getElem?_toArray, List.getElem?_cons_succ, List.getElem?_cons_zero]; rfl
    case hQm118 => exact fun _ _ _ h => h
    case hwm118 => rfl
    case hym118 => (intro w9 hSw; obtain ⟨c0, c1⟩ := (gr.ext hSw).cells; go_simp; (try with_reducible rfl))
    case restm118 =>
    try simp only [Act.put, List.setIfInBounds_toArray, List.set_cons_zero, List.set_cons_succ]
    refine wpAnyH_take (i := 2) (oi := ?oim119) (v := ?vm119) ?him119 (by kernel_rfl) (by kernel_rfl) (by kernel_rfl) ?hQm119 (Or.inl ⟨?hwm119, ?hym119⟩) hHeld ?restm119
    case him119 => simp only [List.getElem?_toArray, List.getElem?_cons_succ, List.getElem?_cons_zero]; rfl
    case hQm119 => exact fun _ _ _ h => h
    case hwm119 => rfl
    case hym119 => (intro w9 hSw; obtain ⟨c0, c1⟩ := (gr.ext hSw).cells; go_simp; (try with_reducible rfl))
    case restm119 =>
    try simp only [Act.put, List.setIfInBounds_toArray, List.set_cons_zero, List.set_cons_succ]
    refine wpAnyH_take (i := 3) (oi := ?oim120) (v := ?vm120) ?him120 (by kernel_rfl) (by kernel_rfl) (by kernel_rfl) ?hQm120 (Or.inl ⟨?hwm120, ?hym120⟩) hHeld ?restm120
    case him120 => simp only [List.getElem?_toArray, List.getElem?_cons_succ, List.getElem?_cons_zero]; rfl
    case hQm120 => exact fun _ _ _ h => h
    case hwm120 => rfl
    case hym120 => (intro w9 hSw; obtain ⟨c0, c1⟩ := (gr.ext hSw).cells; go_simp; (try with_reducible rfl))
    case restm120 =>
    try simp only [Act.put, List.setIfInBounds_toArray, List.set_cons_zero, List.set_cons_succ]
    refine wpAnyH_take (i := 4) (oi := ?oim121) (v := ?vm121) ?him121 (by kernel_rfl) (by kernel_rfl) (by kernel_rfl) ?hQm121 (Or.inl ⟨?hwm121, ?hym121⟩) hHeld ?restm121
    case him121 => simp only [List.getElem?_toArray, List.getElem?_cons_succ, List.getElem?_cons_zero]; rfl
    case hQm121 => exact fun _ _ _ h => h
    case hwm121 => rfl
    case hym121 => (intro w9 hSw; replace p0 := (Ext.cell hSw hbr).trans p0; replace p1 := (Ext.cell hSw hbr).trans p1; replace p2 := (Ext.cell hSw hbr).trans p2; replace p3 := (Ext.cell hSw hbr).trans p3; replace p4 := (Ext.cell hSw hbr).trans p4; go_simp; (try with_reducible rfl))
    case restm121 =>
    try simp only [Act.put, List.setIfInBounds_toArray, List.set_cons_zero, List.set_cons_succ]
    refine wpAnyH_ready (rs := [5]) (by kernel_rfl) (by simp) (AllReadyH.cons (o := ?om122) ?im122 (fun K hK => ?_) AllReadyH.nil)
    case im122 => simp only [List.getElem?_toArray, List.getElem?_cons_succ, List.getElem?_cons_zero]; rfl
    rw [if_pos (by rfl)]
    go_simp
    go_at_call 36
    (with_reducible refine (RF _ hHeld).mono ?_)
    rintro e wz ⟨rfl, xz⟩
    refine hK.out _ _ (hHeld.trans xz) (fun hHeld => ?_)
    clear hK K
    try simp only [List.setIfInBounds_toArray, List.set_cons_zero, List.set_cons_succ]
    refine wpAnyH_take (i := 6) (oi := ?oim123) (v := ?vm123) ?him123 (by kernel_rfl) (by kernel_rfl) (by kernel_rfl) ?hQm123 (Or.inl ⟨?hwm123, ?hym123⟩) hHeld ?restm123
    case him123 => simp only [List.getElem?_toArray, List.getElem?_cons_succ, List.getElem?_cons_zero]; rfl
    case hQm123 => exact fun _ _ _ h => h
    case hwm123 => rfl
    case hym123 => (intro w9 hSw; skip; go_simp; (try with_reducible rfl))
    case restm123 =>
    try simp only [Act.put, List.setIfInBounds_toArray, List.set_cons_zero, List.set_cons_succ]
    refine wpAnyH_take (i := 7) (oi := ?oim124) (v := ?vm124) ?him124 (by kernel_rfl) (by kernel_rfl) (by kernel_rfl) ?hQm124 (Or.inl ⟨?hwm124, ?hym124⟩) hHeld ?restm124
    case him124 => simp only [List.getElem?_toArray, List.getElem?_cons_succ, List.getElem?_cons_zero]; rfl
    case hQm124 => exact fun _ _ _ h => h
    case hwm124 => rfl
    case hym124 => (intro w9 hSw; skip; go_simp; (try with_reducible rfl))
    case restm124 =>
    try simp only [Act.put, List.setIfInBounds_toArray, List.set_cons_zero, List.set_cons_succ]
    refine wpAnyH_take (i := 8) (oi := ?oim125) (v := undef) ?him125 (by kernel_rfl) (by kernel_rfl) (by kernel_rfl) ?hQm125 (Or.inr ⟨?hwm125, rfl⟩) hHeld ?restm125
    case him125 => simp only [List.getElem?_toArray, List.getElem?_cons_succ, List.getElem?_cons_zero]; rfl
    case hQm125 => exact fun _ _ _ h => h
    case hwm125 => rfl
    case restm125 =>
    try simp only [Act.put, List.setIfInBounds_toArray, List.set_cons_zero, List.set_cons_succ]
    refine wpAnyH_take (i := 9) (oi := ?oim126) (v := undef) ?him126 (by kernel_rfl) (by kernel_rfl) (by kernel_rfl) ?hQm126 (Or.inr ⟨?hwm126, rfl⟩) hHeld ?restm126
    case him126 => simp only [List.getElem?_toArray, List.getElem?_cons_succ, List.getElem?_cons_zero]; rfl
    case hQm126 => exact fun _ _ _ h => h
    case hwm126 => rfl
    case restm126 =>
    try simp only [Act.put, List.setIfInBounds_toArray, List.set_cons_zero, List.set_cons_succ]
    refine wpAnyH_take (i := 10) (oi := ?oim127) (v := undef) ?him127 (by kernel_rfl) (by kernel_rfl) (by kernel_rfl) ?hQm127 (Or.inr ⟨?hwm127, rfl⟩) hHeld ?restm127
    case him127 => simp only [List.getElem?_toArray, List.getElem?_cons_succ, List.getElem?_cons_zero]; rfl
    case hQm127 => exact fun _ _ _ h => h
    case hwm127 => rfl
    case restm127 =>
    try simp only [Act.put, List.setIfInBounds_toArray, List.set_cons_zero, List.set_cons_succ]
    refine wpAnyH_take (i := 11) (oi := ?oim128) (v := undef) ?him128 (by kernel_rfl) (by kernel_rfl) (by kernel_rfl) ?hQm128 (Or.inr ⟨?hwm128, rfl⟩) hHeld ?restm128
    case him128 => simp only [List.getElem?_toArray, List.getElem?_cons_succ, List.getElem?_cons_zero]; rfl
    case hQm128 => exact fun _ _ _ h => h
    case hwm128 => rfl
    case restm128 =>
    try simp only [Act.put, List.setIfInBounds_toArray, List.set_cons_zero, List.set_cons_succ]
    refine wpAnyH_take (i := 12) (oi := ?oim129) (v := undef) ?him129 (by kernel_rfl) (by kernel_rfl) (by kernel_rfl) ?hQm129 (Or.inr ⟨?hwm129, rfl⟩) hHeld ?restm129
    case him129 => simp only [List.getElem?_toArray, List.getElem?_cons_succ, List.getElem?_cons_zero]; rfl
    case hQm129 => exact fun _ _ _ h => h
    case hwm129 => rfl
    case restm129 =>
    try simp only [Act.put, List.setIfInBounds_toArray, List.set_cons_zero, List.set_cons_succ]
    refine wpAnyH_take (i := 13) (oi := ?oim130) (v := undef) ?him130 (by kernel_rfl) (by kernel_rfl) (by kernel_rfl) ?hQm130 (Or.inr ⟨?hwm130, rfl⟩) hHeld ?restm130
    case him130 => simp only [List.getElem?_toArray, List.getElem?_cons_succ, List.getElem?_cons_zero]; rfl
    case hQm130 => exact fun _ _ _ h => h
    case hwm130 => rfl
    case restm130 =>
    try simp only [Act.put, List.setIfInBounds_toArray, List.set_cons_zero, List.set_cons_succ]
    refine wpAnyH_take (i := 14) (oi := ?oim131) (v := undef) ?him131 (by kernel_rfl) (by kernel_rfl) (by kernel_rfl) ?hQm131 (Or.inr ⟨?hwm131, rfl⟩) hHeld ?restm131
    case him131 => simp only [List.getElem?_toArray, List.getElem?_cons_succ, List.getElem?_cons_zero]; rfl
    case hQm131 => exact fun _ _ _ h => h
    case hwm131 => rfl
    case restm131 =>
    try simp only [Act.put, List.setIfInBounds_toArray, List.set_cons_zero, List.set_cons_succ]
    refine wpAnyH_take (i := 15) (oi := ?oim132) (v := undef) ?him132 (by kernel_rfl) (by kernel_rfl) (by kernel_rfl) ?hQm132 (Or.inr ⟨?hwm132, rfl⟩) hHeld ?restm132
    case him132 => simp only [List.getElem?_toArray, List.getElem?_cons_succ, List.getElem?_cons_zero]; rfl
    case hQm132 => exact fun _ _ _ h => h
    case hwm132 => rfl
    case restm132 =>
    try simp only [Act.put, List.setIfInBounds_toArray, List.set_cons_zero, List.set_cons_succ]
    refine wpAnyH_take (i := 16) (oi := ?oim133) (v := undef) ?him133 (by kernel_rfl) (by kernel_rfl) (by kernel_rfl) ?hQm133 (Or.inr ⟨?hwm133, rfl⟩) hHeld ?restm133
    case him133 => simp only [List.getElem?_toArray, List.getElem?_cons_succ, List.getElem?_cons_zero]; rfl
    case hQm133 => exact fun _ _ _ h => h
    case hwm133 => rfl
    case restm133 =>
    try simp only [Act.put, List.setIfInBounds_toArray, List.set_cons_zero, List.set_cons_succ]
    refine wpAnyH_take (i := 17) (oi := ?oim134) (v := undef) ?him134 (by kernel_rfl) (by kernel_rfl) (by kernel_rfl) ?hQm134 (Or.inr ⟨?hwm134, rfl⟩) hHeld ?restm134
    case him134 => simp only [List.getElem?_toArray, List.getElem?_cons_succ, List.getElem?_cons_zero]; rfl
    case hQm134 => exact fun _ _ _ h => h
    case hwm134 => rfl
    case restm134 =>
    try simp only [Act.put, List.setIfInBounds_toArray, List.set_cons_zero, List.set_cons_succ]
    refine wpAnyH_take (i := 18) (oi := ?oim135) (v := undef) ?him135 (by kernel_rfl) (by kernel_rfl) (by kernel_rfl) ?hQm135 (Or.inr ⟨?hwm135, rfl⟩) hHeld ?restm135
    case him135 => simp only [List.getElem?_toArray, List.getElem?_cons_succ, List.getElem?_cons_zero]; rfl
    case hQm135 => exact fun _ _ _ h => h
    case hwm135 => rfl
    case restm135 =>
    try simp only [Act.put, List.setIfInBounds_toArray, List.set_cons_zero, List.set_cons_succ]
    refine wpAnyH_take (i := 19) (oi := ?oim136) (v := undef) ?him136 (by kernel_rfl) (by kernel_rfl) (by kernel_rfl) ?hQm136 (Or.inr ⟨?hwm136, rfl⟩) hHeld ?restm136
    case him136 => simp only [List.getElem?_toArray, List.getElem?_cons_succ, List.getElem?_cons_zero]; rfl
    case hQm136 => exact fun _ _ _ h => h
    case hwm136 => rfl
    case restm136 =>
    try simp only [Act.put, List.setIfInBounds_toArray, List.set_cons_zero, List.set_cons_succ]
    refine wpAnyH_take (i := 20) (oi := ?oim137) (v := undef) ?him137 (by kernel_rfl) (by kernel_rfl) (by kernel_rfl) ?hQm137 (Or.inr ⟨?hwm137, rfl⟩) hHeld ?restm137
    case him137 => simp only [List.getElem?_toArray, List.getElem?_cons_succ, List.getElem?_cons_zero]; rfl
    case hQm137 => exact fun _ _ _ h => h
    case hwm137 => rfl
    case restm137 =>
    try simp only [Act.put, List.setIfInBounds_toArray, List.set_cons_zero, List.set_cons_succ]
    refine wpAnyH_take (i := 21) (oi := ?oim138) (v := undef) ?him138 (by kernel_rfl) (by kernel_rfl) (by kernel_rfl) ?hQm138 (Or.inr ⟨?hwm138, rfl⟩) hHeld ?restm138
    case him138 => simp only [List.getElem?_toArray, List.getElem?_cons_succ, List.getElem?_cons_zero]; rfl
    case hQm138 => exact fun _ _ _ h => h
    case hwm138 => rfl
    case restm138 =>
    try simp only [Act.put, List.setIfInBounds_toArray, List.set_cons_zero, List.set_cons_succ]
    refine wpAnyH_take (i := 22) (oi := ?oim139) (v := undef) ?him139 (by kernel_rfl) (by kernel_rfl) (by kernel_rfl) ?hQm139 (Or.inr ⟨?hwm139, rfl⟩) hHeld ?restm139
    case him139 => simp only [List.getElem?_toArray, List.getElem?_cons_succ, List.getElem?_cons_zero]; rfl
    case hQm139 => exact fun _ _ _ h => h
    case hwm139 => rfl
    case restm139 =>
    try simp only [Act.put, List.setIfInBounds_toArray, List.set_cons_zero, List.set_cons_succ]
    refine wpAnyH_take (i := 23) (oi := ?oim140) (v := undef) ?him140 (by kernel_rfl) (by kernel_rfl) (by kernel_rfl) ?hQm140 (Or.inr ⟨?hwm140, rfl⟩) hHeld ?restm140
    case him140 => simp only [List.getElem?_toArray, List.getElem?_cons_succ, List.getElem?_cons_zero]; rfl
    case hQm140 => exact fun _ _ _ h => h
    case hwm140 => rfl
    case restm140 =>
    try simp only [Act.put, List.setIfInBounds_toArray, List.set_cons_zero, List.set_cons_succ]
    refine wpAnyH_take (i := 24) (oi := ?oim141) (v := undef) ?him141 (by kernel_rfl) (by kernel_rfl) (by kernel_rfl) ?hQm141 (Or.inr ⟨?hwm141, rfl⟩) hHeld ?restm141
    case him141 => simp only [List.getElem?_toArray, List.getElem?_cons_succ, List.getElem?_cons_zero]; rfl
    case hQm141 => exact fun _ _ _ h => h
    case hwm141 => rfl
    case restm141 =>
    try simp only [Act.put, List.setIfInBounds_toArray, List.set_cons_zero, List.set_cons_succ]
    refine wpAnyH_take (i := 25) (oi := ?oim142) (v := undef) ?him142 (by kernel_rfl) (by kernel_rfl) (by kernel_rfl) ?hQm142 (Or.inr ⟨?hwm142, rfl⟩) hHeld ?restm142
    case him142 => simp only [List.getElem?_toArray, List.getElem?_cons_succ, List.getElem?_cons_zero]; rfl
    case hQm142 => exact fun _ _ _ h => h
    case hwm142 => rfl
    case restm142 =>
    try simp only [Act.put, List.setIfInBounds_toArray, List.set_cons_zero, List.set_cons_succ]
    refine wpAnyH_take (i := 26) (oi := ?oim143) (v := undef) ?him143 (by kernel_rfl) (by kernel_rfl) (by kernel_rfl) ?hQm143 (Or.inr ⟨?hwm143, rfl⟩) hHeld ?restm143
    case him143 => simp only [List.getElem?_toArray, List.getElem?_cons_succ, List.getElem?_cons_zero]; rfl
    case hQm143 => exact fun _ _ _ h => h
    case hwm143 => rfl
    case restm143 =>
    try simp only [Act.put, List.setIfInBounds_toArray, List.set_cons_zero, List.set_cons_succ]
    refine wpAnyH_take (i := 27) (oi := ?oim144) (v := undef) ?him144 (by kernel_rfl) (by kernel_rfl) (by kernel_rfl) ?hQm144 (Or.inr ⟨?hwm144, rfl⟩) hHeld ?restm144
    case him144 => simp only [List.getElem?_toArray, List.getElem?_cons_succ, List.getElem?_cons_zero]; rfl
    case hQm144 => exact fun _ _ _ h => h
    case hwm144 => rfl
    case restm144 =>
    try simp only [Act.put, List.setIfInBounds_toArray, List.set_cons_zero, List.set_cons_succ]
    refine wpAnyH_take (i := 28) (oi := ?oim145) (v := ?vm145) ?him145 (by kernel_rfl) (by kernel_rfl) (by kernel_rfl) ?hQm145 (Or.inl ⟨?hwm145, ?hym145⟩) hHeld ?restm145
    case him145 => simp only [List.getElem?_toArray, List.getElem?_cons_succ, List.getElem?_cons_zero]; rfl
    case hQm145 => exact fun _ _ _ h => h
    case hwm145 => rfl
    case hym145 => (intro w9 hSw; skip; go_simp; (try with_reducible rfl))
    case restm145 =>
    try simp only [Act.put, List.setIfInBounds_toArray, List.set_cons_zero, List.set_cons_succ]
    refine wpAnyH_done (by kernel_rfl) ?_ _
    go_wp2_with fail
    go_ret
    exact ⟨retI HV.out, (z1.trans xr).trans hHeld⟩
   ·cases k with
    | zero =>
      have hd2 : Hid (famsGo (((l.map FamD.y).take (0 + 1)).getLast?.map FamY.nm) ((l.map FamD.y).drop (0 + 1)) = G) := Lib.hid (by
       rw [htl, ← hd]
       show _ = famsGo none (l[0].y :: _)
       rw [famsGo, hgk]
       rfl)
      clear hd hg htl hR PO
      generalize l[0] = p at *
      rw [Nat.zero_mul, Nat.add_zero] at p0 p1 p2 p3 p4
      unfold FamD.v at RF
      clear hA hL ok1 sm1 hgk hs
      go_wp2_with fail
      refine wp_region_held_drew (S := Ext wr) (by kernel_rfl) ((Ext.refl wr).drew) (fun hHeld => ?_)
      refine wpAnyH_take (i := 0) (oi := ?oim146) (v := ?vm146) ?him146 (by kernel_rfl) (by kernel_rfl) (by kernel_rfl) ?hQm146 (Or.inl ⟨?hwm146, ?hym146⟩) hHeld ?restm146
      case him146 => simp only [List.getElem?_toArray, List.getElem?_cons_zero]; rfl
      case hQm146 => exact fun _ _ _ h => h
      case hwm146 => rfl
      case hym146 => (intro w9 hSw; obtain ⟨c0, c1⟩ := (gr.ext hSw).cells; go_simp; (try with_reducible rfl))
      case restm146 =>
      try simp only [Act.put, List.setIfInBounds_toArray, List.set_cons_zero, List.set_cons_succ]
      refine wpAnyH_take (i := 1) (oi := ?oim147) (v := ?vm147) ?him147 (by kernel_rfl) (by kernel_rfl) (by kernel_rfl) ?hQm147 (Or.inl ⟨?hwm147, ?hym147⟩) hHeld ?restm147
      case him147 => simp only [List.getElem?_toArray, List.getElem?_cons_succ, List.getElem?_cons_zero]; rfl
      case hQm147 => exact fun _ _ _ h => h
      case hwm147 => rfl
      case hym147 => (intro w9 hSw; obtain ⟨c0, c1⟩ := (gr.ext hSw).cells; go_simp; (try with_reducible rfl))
      case restm147 =>
      try simp only [Act.put, List.setIfInBounds_toArray, List.set_cons_zero, List.set_cons_succ]
      refine wpAnyH_take (i := 2) (oi := ?oim148) (v := ?vm148) ?him148 (by kernel_rfl) (by kernel_rfl) (by kernel_rfl) ?hQm148 (Or.inl ⟨?hwm148, ?hym148⟩) hHeld ?restm148
      case him148 => simp only [List.getElem?_toArray, List.getElem?_cons_succ, List.getElem?_cons_zero]; rfl
      case hQm148 => exact fun _ _ _ h => h
      case hwm148 => rfl
      case hym148 => (intro w9 hSw; obtain ⟨c0, c1⟩ := (gr.ext hSw).cells; go_simp; (try with_reducible rfl))
      case restm148 =>
      try simp only [Act.put, List.setIfInBounds_toArray, List.set_cons_zero, List.set_cons_succ]
      refine wpAnyH_take (i := 3) (oi := ?oim149) (v := ?vm149) ?him149 (by kernel_rfl) (by kernel_rfl) (by kernel_rfl) ?hQm149 (Or.inl ⟨?hwm149, ?hym149⟩) hHeld ?restm149
      case him149 => simp only [List.getElem?_toArray, List.getElem?_cons_succ, List.getElem?_cons_zero]; rfl
      case hQm149 => exact fun _ _ _ h => h
      case hwm149 => rfl
      case hym149 => (intro w9 hSw; obtain ⟨c0, c1⟩ := (gr.ext hSw).cells; go_simp; (try with_reducible rfl))
      case restm149 =>
      try simp only [Act.put, List.setIfInBounds_toArray, List.set_cons_zero, List.set_cons_succ]
      refine wpAnyH_take (i := 4) (oi := ?oim150) (v := ?vm150) ?him150 (by kernel_rfl) (by kernel_rfl) (by kernel_rfl) ?hQm150 (Or.inl ⟨?hwm150, ?hym150⟩) hHeld ?restm150
      case him150 => simp only [List.getElem?_toArray, List.getElem?_cons_succ, List.getElem?_cons_zero]; rfl
      case hQm150 => exact fun _ _ _ h => h
      case hwm150 => rfl
      case hym150 => (intro w9 hSw; replace p0 := (Ext.cell hSw hbr).trans p0; replace p1 := (Ext.cell hSw hbr).trans p1; replace p2 := (Ext.cell hSw hbr).trans p2; replace p3 := (Ext.cell hSw hbr).trans p3; replace p4 := (Ext.cell hSw hbr).trans p4; go_simp; (try with_reducible rfl))
      case restm150 =>
      try simp only [Act.put, List.setIfInBounds_toArray, List.set_cons_zero, List.set_cons_succ]
      refine wpAnyH_ready (rs := [5]) (by kernel_rfl) (by simp) (AllReadyH.cons (o := ?om151) ?im151 (fun K hK => ?_) AllReadyH.nil)
      case im151 => simp only [List.getElem?_toArray, List.getElem?_cons_succ, List.getElem?_cons_zero]; rfl
      rw [if_pos (by rfl)]
      go_simp
      go_at_call 36
      (with_reducible refine (RF _ hHeld).mono ?_)
      rintro e wz ⟨rfl, xz⟩
      refine hK.out _ _ (hHeld.trans xz) (fun hHeld => ?_)
      clear hK K
      try simp only [List.setIfInBounds_toArray, List.set_cons_zero, List.set_cons_succ]
      refine wpAnyH_take (i := 6) (oi := ?oim152) (v := ?vm152) ?him152 (by kernel_rfl) (by kernel_rfl) (by kernel_rfl) ?hQm152 (Or.inl ⟨?hwm152, ?hym152⟩) hHeld ?restm152
      case him152 => simp only [List.getElem?_toArray, List.getElem?_cons_succ, List.getElem?_cons_zero]; rfl
      case hQm152 => exact fun _ _ _ h => h
      case hwm152 => rfl
      case hym152 => (intro w9 hSw; skip; go_simp; (try with_reducible rfl))
      case restm152 =>
      try simp only [Act.put, List.setIfInBounds_toArray, List.set_cons_zero, List.set_cons_succ]
      refine wpAnyH_take (i := 7) (oi := ?oim153) (v := ?vm153) ?him153 (by kernel_rfl) (by kernel_rfl) (by kernel_rfl) ?hQm153 (Or.inl ⟨?hwm153, ?hym153⟩) hHeld ?restm153
      case him153 => simp only [List.getElem?_toArray, List.getElem?_cons_succ, List.getElem?_cons_zero]; rfl
      case hQm153 => exact fun _ _ _ h => h
      case hwm153 => rfl
      case hym153 => (intro w9 hSw; skip; go_simp; (try with_reducible rfl))
      case restm153 =>
      try simp only [Act.put, List.setIfInBounds_toArray, List.set_cons_zero, List.set_cons_succ]
      refine wpAnyH_take (i := 8) (oi := ?oim154) (v := ?vm154) ?him154 (by kernel_rfl) (by kernel_rfl) (by kernel_rfl) ?hQm154 (Or.inl ⟨?hwm154, ?hym154⟩) hHeld ?restm154
      case him154 => simp only [List.getElem?_toArray, List.getElem?_cons_succ, List.getElem?_cons_zero]; rfl
      case hQm154 => exact fun _ _ _ h => h
      case hwm154 => rfl
      case hym154 => (intro w9 hSw; skip; go_simp; (try with_reducible rfl))
      case restm154 =>
      try simp only [Act.put, List.setIfInBounds_toArray, List.set_cons_zero, List.set_cons_succ]
      refine wpAnyH_take (i := 9) (oi := ?oim155) (v := ?vm155) ?him155 (by kernel_rfl) (by kernel_rfl) (by kernel_rfl) ?hQm155 (Or.inl ⟨?hwm155, ?hym155⟩) hHeld ?restm155
      case him155 => simp only [List.getElem?_toArray, List.getElem?_cons_succ, List.getElem?_cons_zero]; rfl
      case hQm155 => exact fun _ _ _ h => h
      case hwm155 => rfl
      case hym155 => (intro w9 hSw; skip; go_simp; (try with_reducible rfl))
      case restm155 =>
      try simp only [Act.put, List.setIfInBounds_toArray, List.set_cons_zero, List.set_cons_succ]
      refine wpAnyH_take (i := 10) (oi := ?oim156) (v := ?vm156) ?him156 (by kernel_rfl) (by kernel_rfl) (by kernel_rfl) ?hQm156 (Or.inl ⟨?hwm156, ?hym156⟩) hHeld ?restm156
      case him156 => simp only [List.getElem?_toArray, List.getElem?_cons_succ, List.getElem?_cons_zero]; rfl
      case hQm156 => exact fun _ _ _ h => h
      case hwm156 => rfl
      case hym156 => (intro w9 hSw; skip; go_simp; (try with_reducible rfl))
      case restm156 =>
      try simp only [Act.put, List.setIfInBounds_toArray, List.set_cons_zero, List.set_cons_succ]
      refine wpAnyH_take (i := 11) (oi := ?oim157) (v := undef) ?him157 (by kernel_rfl) (by kernel_rfl) (by kernel_rfl) ?hQm157 (Or.inr ⟨?hwm157, rfl⟩) hHeld ?restm157
      case him157 => simp only [List.getElem?_toArray, List.getElem?_cons_succ, List.getElem?_cons_zero]; rfl
      case hQm157 => exact fun _ _ _ h => h
      case hwm157 => rfl
      case restm157 =>
      try simp only [Act.put, List.setIfInBounds_toArray, List.set_cons_zero, List.set_cons_succ]
      refine wpAnyH_take (i := 12) (oi := ?oim158) (v := undef) ?him158 (by kernel_rfl) (by kernel_rfl) (by kernel_rfl) ?hQm158 (Or.inr ⟨?hwm158, rfl⟩) hHeld ?restm158
      case him158 => simp only [List.getElem?_toArray, List.getElem?_cons_succ, List.getElem?_cons_zero]; rfl
      case hQm158 => exact fun _ _ _ h => h
      case hwm158 => rfl
      case restm158 =>
      try simp only [Act.put, List.setIfInBounds_toArray, List.set_cons_zero, List.set_cons_succ]
      refine wpAnyH_take (i := 13) (oi := ?oim159) (v := undef) ?him159 (by kernel_rfl) (by kernel_rfl) (by kernel_rfl) ?hQm159 (Or.inr ⟨?hwm159, rfl⟩) hHeld ?restm159
      case him159 => simp only [List.getElem?_toArray, List.getElem?_cons_succ, List.getElem?_cons_zero]; rfl
      case hQm159 => exact fun _ _ _ h => h
      case hwm159 => rfl
      case restm159 =>
      try simp only [Act.put, List.setIfInBounds_toArray, List.set_cons_zero, List.set_cons_succ]
      refine wpAnyH_take (i := 14) (oi := ?oim160) (v := undef) ?him160 (by kernel_rfl) (by kernel_rfl) (by kernel_rfl) ?hQm160 (Or.inr ⟨?hwm160, rfl⟩) hHeld ?restm160
      case him160 => simp only [List.getElem?_toArray, List.getElem?_cons_succ, List.getElem?_cons_zero]; rfl
      case hQm160 => exact fun _ _ _ h => h
      case hwm160 => rfl
      case restm160 =>
      try simp only [Act.put, List.setIfInBounds_toArray, List.set_cons_zero, List.set_cons_succ]
      refine wpAnyH_take (i := 15) (oi := ?oim161) (v := undef) ?him161 (by kernel_rfl) (by kernel_rfl) (by kernel_rfl) ?hQm161 (Or.inr ⟨?hwm161, rfl⟩) hHeld ?restm161
      case him161 => simp only [List.getElem?_toArray, List.getElem?_cons_succ, List.getElem?_cons_zero]; rfl
      case hQm161 => exact fun _ _ _ h => h
      case hwm161 => rfl
      case restm161 =>
      try simp only [Act.put, List.setIfInBounds_toArray, List.set_cons_zero, List.set_cons_succ]
      refine wpAnyH_take (i := 16) (oi := ?oim162) (v := undef) ?him162 (by kernel_rfl) (by kernel_rfl) (by kernel_rfl) ?hQm162 (Or.inr ⟨?hwm162, rfl⟩) hHeld ?restm162
      case him162 => simp only [List.getElem?_toArray, List.getElem?_cons_succ, List.getElem?_cons_zero]; rfl
      case hQm162 => exact fun _ _ _ h => h
      case hwm162 => rfl
      case restm162 =>
      try simp only [Act.put, List.setIfInBounds_toArray, List.set_cons_zero, List.set_cons_succ]
      refine wpAnyH_take (i := 17) (oi := ?oim163) (v := undef) ?him163 (by kernel_rfl) (by kernel_rfl) (by kernel_rfl) ?hQm163 (Or.inr ⟨?hwm163, rfl⟩) hHeld ?restm163
      case him163 => simp only [List.getElem?_toArray, List.getElem?_cons_succ, List.getElem?_cons_zero]; rfl
      case hQm163 => exact fun _ _ _ h => h
      case hwm163 => rfl
      case restm163 =>
      try simp only [Act.put, List.setIfInBounds_toArray, List.set_cons_zero, List.set_cons_succ]
      refine wpAnyH_take (i := 18) (oi := ?oim164) (v := undef) ?him164 (by kernel_rfl) (by kernel_rfl) (by kernel_rfl) ?hQm164 (Or.inr ⟨?hwm164, rfl⟩) hHeld ?restm164
      case him164 => simp only [List.getElem?_toArray, List.getElem?_cons_succ, List.getElem?_cons_zero]; rfl
      case hQm164 => exact fun _ _ _ h => h
      case hwm164 => rfl
      case restm164 =>
      try simp only [Act.put, List.setIfInBounds_toArray, List.set_cons_zero, List.set_cons_succ]
      refine wpAnyH_take (i := 19) (oi := ?oim165) (v := undef) ?him165 (by kernel_rfl) (by kernel_rfl) (by kernel_rfl) ?hQm165 (Or.inr ⟨?hwm165, rfl⟩) hHeld ?restm165
      case him165 => simp only [List.getElem?_toArray, List.getElem?_cons_succ, List.getElem?_cons_zero]; rfl
      case hQm165 => exact fun _ _ _ h => h
      case hwm165 => rfl
      case restm165 =>
      try simp only [Act.put, List.setIfInBounds_toArray, List.set_cons_zero, List.set_cons_succ]
      refine wpAnyH_take (i := 20) (oi := ?oim166) (v := undef) ?him166 (by kernel_rfl) (by kernel_rfl) (by kernel_rfl) ?hQm166 (Or.inr ⟨?hwm166, rfl⟩) hHeld ?restm166
      case him166 => simp only [List.getElem?_toArray, List.getElem?_cons_succ, List.getElem?_cons_zero]; rfl
      case hQm166 => exact fun _ _ _ h => h
      case hwm166 => rfl
      case restm166 =>
      try simp only [Act.put, List.setIfInBounds_toArray, List.set_cons_zero, List.set_cons_succ]
      refine wpAnyH_take (i := 21) (oi := ?oim167) (v := undef) ?him167 (by kernel_rfl) (by kernel_rfl) (by kernel_rfl) ?hQm167 (Or.inr ⟨?hwm167, rfl⟩) hHeld ?restm167
      case him167 => simp only [List.getElem?_toArray, List.getElem?_cons_succ, List.getElem?_cons_zero]; rfl
      case hQm167 => exact fun _ _ _ h => h
      case hwm167 => rfl
      case restm167 =>
      try simp only [Act.put, List.setIfInBounds_toArray, List.set_cons_zero, List.set_cons_succ]
      refine wpAnyH_take (i := 22) (oi := ?oim168) (v := undef) ?him168 (by kernel_rfl) (by kernel_rfl) (by kernel_rfl) ?hQm168 (Or.inr ⟨?hwm168, rfl⟩) hHeld ?restm168
      case him168 => simp only [List.getElem?_toArray, List.getElem?_cons_succ, List.getElem?_cons_zero]; rfl
      case hQm168 => exact fun _ _ _ h => h
      case hwm168 => rfl
      case restm168 =>
      try simp only [Act.put, List.setIfInBounds_toArray, List.set_cons_zero, List.set_cons_succ]
      refine wpAnyH_take (i := 23) (oi := ?oim169) (v := undef) ?him169 (by kernel_rfl) (by kernel_rfl) (by kernel_rfl) ?hQm169 (Or.inr ⟨?hwm169, rfl⟩) hHeld ?restm169
      case him169 => simp only [List.getElem?_toArray, List.getElem?_cons_succ, List.getElem?_cons_zero]; rfl
      case hQm169 => exact fun _ _ _ h => h
      case hwm169 => rfl
      case restm169 =>
      try simp only [Act.put, List.setIfInBounds_toArray, List.set_cons_zero, List.set_cons_succ]
      refine wpAnyH_take (i := 24) (oi := ?oim170) (v := undef) ?him170 (by kernel_rfl) (by kernel_rfl) (by kernel_rfl) ?hQm170 (Or.inr ⟨?hwm170, rfl⟩) hHeld ?restm170
      case him170 => simp only [List.getElem?_toArray, List.getElem?_cons_succ, List.getElem?_cons_zero]; rfl
      case hQm170 => exact fun _ _ _ h => h
      case hwm170 => rfl
      case restm170 =>
      try simp only [Act.put, List.setIfInBounds_toArray, List.set_cons_zero, List.set_cons_succ]
      refine wpAnyH_take (i := 25) (oi := ?oim171) (v := undef) ?him171 (by kernel_rfl) (by kernel_rfl) (by kernel_rfl) ?hQm171 (Or.inr ⟨?hwm171, rfl⟩) hHeld ?restm171
      case him171 => simp only [List.getElem?_toArray, List.getElem?_cons_succ, List.getElem?_cons_zero]; rfl
      case hQm171 => exact fun _ _ _ h => h
      case hwm171 => rfl
      case restm171 =>
      try simp only [Act.put, List.setIfInBounds_toArray, List.set_cons_zero, List.set_cons_succ]
      refine wpAnyH_take (i := 26) (oi := ?oim172) (v := undef) ?him172 (by kernel_rfl) (by kernel_rfl) (by kernel_rfl) ?hQm172 (Or.inr ⟨?hwm172, rfl⟩) hHeld ?restm172
      case him172 => simp only [List.getElem?_toArray, List.getElem?_cons_succ, List.getElem?_cons_zero]; rfl
      case hQm172 => exact fun _ _ _ h => h
      case hwm172 => rfl
      case restm172 =>
      try simp only [Act.put, List.setIfInBounds_toArray, List.set_cons_zero, List.set_cons_succ]
      refine wpAnyH_take (i := 27) (oi := ?oim173) (v := ?vm173) ?him173 (by kernel_rfl) (by kernel_rfl) (by kernel_rfl) ?hQm173 (Or.inl ⟨?hwm173, ?hym173⟩) hHeld ?restm173
      case him173 => simp only [List.getElem?_toArray, List.getElem?_cons_succ, List.getElem?_cons_zero]; rfl
      case hQm173 => exact fun _ _ _ h => h
      case hwm173 => rfl
      case hym173 => (intro w9 hSw; skip; go_simp; (try with_reducible rfl))
      case restm173 =>
      try simp only [Act.put, List.setIfInBounds_toArray, List.set_cons_zero, List.set_cons_succ]
      refine wpAnyH_take (i := 28) (oi := ?oim174) (v := ?vm174) ?him174 (by kernel_rfl) (by kernel_rfl) (by kernel_rfl) ?hQm174 (Or.inl ⟨?hwm174, ?hym174⟩) hHeld ?restm174
      case him174 => simp only [List.getElem?_toArray, List.getElem?_cons_succ, List.getElem?_cons_zero]; rfl
      case hQm174 => exact fun _ _ _ h => h
      case hwm174 => rfl
      case hym174 => (intro w9 hSw; skip; go_simp; (try with_reducible rfl))
      case restm174 =>
      try simp only [Act.put, List.setIfInBounds_toArray, List.set_cons_zero, List.set_cons_succ]
      refine wpAnyH_done (by kernel_rfl) ?_ _
      go_wp2_with fail
      go_roundw
      case rel => exact ⟨0 + 1, rfl, hlt, hd2, xr.trans hHeld⟩
      case measure => simp only [intOf]; omega
    | succ j =>
      have hj : j < l.length := by omega
      have hj' : j < (l.map FamD.y).length := by simpa using hj
      have hpr : (((l.map FamD.y).take (j + 1)).getLast?.map FamY.nm) = some l[j].nm := by
       rw [List.take_add_one, List.getElem?_eq_getElem hj', Option.toList_some, List.getLast?_append]
       simp [FamD.y]
      rw [hpr, famsGo, hgk, Bool.true_and] at hd
      obtain ⟨q0, _, _, _, _⟩ := hL j hj
      rw [show l[j + 1].y.nm = l[j + 1].nm from rfl] at hd
      have hd3 : Hid (cmpS l[j].nm l[j + 1].nm < 0 → famsGo (((l.map FamD.y).take (j + 1 + 1)).getLast?.map FamY.nm) ((l.map FamD.y).drop (j + 1 + 1)) = G) := Lib.hid (fun h => by rw [htl, ← hd, decide_eq_true h, Bool.true_and])
      have hd4 : Hid (¬ cmpS l[j].nm l[j + 1].nm < 0 → 19 = R) := Lib.hid (fun h => by
       have hGf : G = false := by rw [← hd, decide_eq_false h, Bool.false_and]
       rw [← hR.out, hGf, if_neg (by simp)])
      have i1 : IntKind.i64.wrap (j : Int) = (j : Int) := IntWalk.i64_in _ (by omega)
      have i2 : (j : Int) < (l.length : Int) := by omega
      have i3 : (0 : Int) < (j : Int) + 1 := by omega
      have i4 : (0 : Int) ≤ (j : Int) + 1 := by omega
      have i5 : (j : Int) + 1 < (l.length : Int) := by omega
      clear hd hg htl hpr hR PO
      generalize l[j + 1] = p at *
      generalize l[j].nm = q at *
      have nl := less_is q p.nm
      unfold FamD.v at RF
      clear hA hL ok1 sm1 hgk hs
      by_cases h0 : cmpS q p.nm < 0
      ·have hd5 := Lib.hid (hd3.out h0)
       rw [decide_eq_true h0] at nl
       clear hd3 hd4 h0
       go_wp2_with fail
       refine wp_region_held_drew (S := Ext wr) (by kernel_rfl) ((Ext.refl wr).drew) (fun hHeld => ?_)
       refine wpAnyH_take (i := 0) (oi := ?oim175) (v := ?vm175) ?him175 (by kernel_rfl) (by kernel_rfl) (by kernel_rfl) ?hQm175 (Or.inl ⟨?hwm175, ?hym175⟩) hHeld ?restm175
       case him175 => simp only [List.getElem?_toArray, List.getElem?_cons_zero]; rfl
       case hQm175 => exact fun _ _ _ h => h
       case hwm175 => rfl
       case hym175 => (intro w9 hSw; obtain ⟨c0, c1⟩ := (gr.ext hSw).cells; go_simp; (try with_reducible rfl))
       case restm175 =>
       try simp only [Act.put, List.setIfInBounds_toArray, List.set_cons_zero, List.set_cons_succ]
       refine wpAnyH_take (i := 1) (oi := ?oim176) (v := ?vm176) ?him176 (by kernel_rfl) (by kernel_rfl) (by kernel_rfl) ?hQm176 (Or.inl ⟨?hwm176, ?hym176⟩) hHeld ?restm176
       case him176 => simp only [List.getElem?_toArray, List.getElem?_cons_succ, List.getElem?_cons_zero]; rfl
       case hQm176 => exact fun _ _ _ h => h
       case hwm176 => rfl
       case hym176 => (intro w9 hSw; obtain ⟨c0, c1⟩ := (gr.ext hSw).cells; go_simp; (try with_reducible rfl))
       case restm176 =>
       try simp only [Act.put, List.setIfInBounds_toArray, List.set_cons_zero, List.set_cons_succ]
       refine wpAnyH_take (i := 2) (oi := ?oim177) (v := ?vm177) ?him177 (by kernel_rfl) (by kernel_rfl) (by kernel_rfl) ?hQm177 (Or.inl ⟨?hwm177, ?hym177⟩) hHeld ?restm177
       case him177 => simp only [List.getElem?_toArray, List.getElem?_cons_succ, List.getElem?_cons_zero]; rfl
       case hQm177 => exact fun _ _ _ h => h
       case hwm177 => rfl
       case hym177 => (intro w9 hSw; obtain ⟨c0, c1⟩ := (gr.ext hSw).cells; go_simp; (try with_reducible rfl))
       case restm177 =>
       try simp only [Act.put, List.setIfInBounds_toArray, List.set_cons_zero, List.set_cons_succ]
       refine wpAnyH_take (i := 3) (oi := ?oim178) (v := ?vm178) ?him178 (by kernel_rfl) (by kernel_rfl) (by kernel_rfl) ?hQm178 (Or.inl ⟨?hwm178, ?hym178⟩) hHeld ?restm178
       case him178 => simp only [List.getElem?_toArray, List.getElem?_cons_succ, List.getElem?_cons_zero]; rfl
       case hQm178 => exact fun _ _ _ h => h
       case hwm178 => rfl
       case hym178 => (intro w9 hSw; obtain ⟨c0, c1⟩ := (gr.ext hSw).cells; go_simp; (try with_reducible rfl))
       case restm178 =>
       try simp only [Act.put, List.setIfInBounds_toArray, List.set_cons_zero, List.set_cons_succ]
       refine wpAnyH_take (i := 4) (oi := ?oim179) (v := ?vm179) ?him179 (by kernel_rfl) (by kernel_rfl) (by kernel_rfl) ?hQm179 (Or.inl ⟨?hwm179, ?hym179⟩) hHeld ?restm179
       case him179 => simp only [List.getElem?_toArray, List.getElem?_cons_succ, List.getElem?_cons_zero]; rfl
       case hQm179 => exact fun _ _ _ h => h
       case hwm179 => rfl
       case hym179 => (intro w9 hSw; replace p0 := (Ext.cell hSw hbr).trans p0; replace p1 := (Ext.cell hSw hbr).trans p1; replace p2 := (Ext.cell hSw hbr).trans p2; replace p3 := (Ext.cell hSw hbr).trans p3; replace p4 := (Ext.cell hSw hbr).trans p4; go_simp; (try with_reducible rfl))
       case restm179 =>
       try simp only [Act.put, List.setIfInBounds_toArray, List.set_cons_zero, List.set_cons_succ]
       refine wpAnyH_ready (rs := [5]) (by kernel_rfl) (by simp) (AllReadyH.cons (o := ?om180) ?im180 (fun K hK => ?_) AllReadyH.nil)
       case im180 => simp only [List.getElem?_toArray, List.getElem?_cons_succ, List.getElem?_cons_zero]; rfl
       rw [if_pos (by rfl)]
       go_simp
       go_at_call 36
       (with_reducible refine (RF _ hHeld).mono ?_)
       rintro e wz ⟨rfl, xz⟩
       refine hK.out _ _ (hHeld.trans xz) (fun hHeld => ?_)
       clear hK K
       try simp only [List.setIfInBounds_toArray, List.set_cons_zero, List.set_cons_succ]
       refine wpAnyH_take (i := 6) (oi := ?oim181) (v := ?vm181) ?him181 (by kernel_rfl) (by kernel_rfl) (by kernel_rfl) ?hQm181 (Or.inl ⟨?hwm181, ?hym181⟩) hHeld ?restm181
       case him181 => simp only [List.getElem?_toArray, List.getElem?_cons_succ, List.getElem?_cons_zero]; rfl
       case hQm181 => exact fun _ _ _ h => h
       case hwm181 => rfl
       case hym181 => (intro w9 hSw; skip; go_simp; (try with_reducible rfl))
       case restm181 =>
       try simp only [Act.put, List.setIfInBounds_toArray, List.set_cons_zero, List.set_cons_succ]
       refine wpAnyH_take (i := 7) (oi := ?oim182) (v := ?vm182) ?him182 (by kernel_rfl) (by kernel_rfl) (by kernel_rfl) ?hQm182 (Or.inl ⟨?hwm182, ?hym182⟩) hHeld ?restm182
       case him182 => simp only [List.getElem?_toArray, List.getElem?_cons_succ, List.getElem?_cons_zero]; rfl
       case hQm182 => exact fun _ _ _ h => h
       case hwm182 => rfl
       case hym182 => (intro w9 hSw; skip; go_simp; (try with_reducible rfl))
       case restm182 =>
       try simp only [Act.put, List.setIfInBounds_toArray, List.set_cons_zero, List.set_cons_succ]
       refine wpAnyH_take (i := 8) (oi := ?oim183) (v := ?vm183) ?him183 (by kernel_rfl) (by kernel_rfl) (by kernel_rfl) ?hQm183 (Or.inl ⟨?hwm183, ?hym183⟩) hHeld ?restm183
       case him183 => simp only [List.getElem?_toArray, List.getElem?_cons_succ, List.getElem?_cons_zero]; rfl
       case hQm183 => exact fun _ _ _ h => h
       case hwm183 => rfl
       case hym183 => (intro w9 hSw; obtain ⟨c0, c1⟩ := (gr.ext hSw).cells; go_simp; (try with_reducible rfl))
       case restm183 =>
       try simp only [Act.put, List.setIfInBounds_toArray, List.set_cons_zero, List.set_cons_succ]
       refine wpAnyH_take (i := 9) (oi := ?oim184) (v := ?vm184) ?him184 (by kernel_rfl) (by kernel_rfl) (by kernel_rfl) ?hQm184 (Or.inl ⟨?hwm184, ?hym184⟩) hHeld ?restm184
       case him184 => simp only [List.getElem?_toArray, List.getElem?_cons_succ, List.getElem?_cons_zero]; rfl
       case hQm184 => exact fun _ _ _ h => h
       case hwm184 => rfl
       case hym184 => (intro w9 hSw; obtain ⟨c0, c1⟩ := (gr.ext hSw).cells; go_simp; (try with_reducible rfl))
       case restm184 =>
       try simp only [Act.put, List.setIfInBounds_toArray, List.set_cons_zero, List.set_cons_succ]
       refine wpAnyH_take (i := 10) (oi := ?oim185) (v := ?vm185) ?him185 (by kernel_rfl) (by kernel_rfl) (by kernel_rfl) ?hQm185 (Or.inl ⟨?hwm185, ?hym185⟩) hHeld ?restm185
       case him185 => simp only [List.getElem?_toArray, List.getElem?_cons_succ, List.getElem?_cons_zero]; rfl
       case hQm185 => exact fun _ _ _ h => h
       case hwm185 => rfl
       case hym185 => (intro w9 hSw; obtain ⟨c0, c1⟩ := (gr.ext hSw).cells; go_simp; (try with_reducible rfl))
       case restm185 =>
       try simp only [Act.put, List.setIfInBounds_toArray, List.set_cons_zero, List.set_cons_succ]
       refine wpAnyH_take (i := 11) (oi := ?oim186) (v := ?vm186) ?him186 (by kernel_rfl) (by kernel_rfl) (by kernel_rfl) ?hQm186 (Or.inl ⟨?hwm186, ?hym186⟩) hHeld ?restm186
       case him186 => simp only [List.getElem?_toArray, List.getElem?_cons_succ, List.getElem?_cons_zero]; rfl
       case hQm186 => exact fun _ _ _ h => h
       case hwm186 => rfl
       case hym186 => (intro w9 hSw; obtain ⟨c0, c1⟩ := (gr.ext hSw).cells; go_simp; (try with_reducible rfl))
       case restm186 =>
       try simp only [Act.put, List.setIfInBounds_toArray, List.set_cons_zero, List.set_cons_succ]
       refine wpAnyH_take (i := 12) (oi := ?oim187) (v := ?vm187) ?him187 (by kernel_rfl) (by kernel_rfl) (by kernel_rfl) ?hQm187 (Or.inl ⟨?hwm187, ?hym187⟩) hHeld ?restm187
       case him187 => simp only [List.getElem?_toArray, List.getElem?_cons_succ, List.getElem?_cons_zero]; rfl
       case hQm187 => exact fun _ _ _ h => h
       case hwm187 => rfl
       case hym187 => (intro w9 hSw; obtain ⟨c0, c1⟩ := (gr.ext hSw).cells; go_simp; (try with_reducible rfl))
       case restm187 =>
       try simp only [Act.put, List.setIfInBounds_toArray, List.set_cons_zero, List.set_cons_succ]
       refine wpAnyH_take (i := 13) (oi := ?oim188) (v := ?vm188) ?him188 (by kernel_rfl) (by kernel_rfl) (by kernel_rfl) ?hQm188 (Or.inl ⟨?hwm188, ?hym188⟩) hHeld ?restm188
       case him188 => simp only [List.getElem?_toArray, List.getElem?_cons_succ, List.getElem?_cons_zero]; rfl
       case hQm188 => exact fun _ _ _ h => h
       case hwm188 => rfl
       case hym188 => (intro w9 hSw; obtain ⟨c0, c1⟩ := (gr.ext hSw).cells; go_simp; (try with_reducible rfl))
       case restm188 =>
       try simp only [Act.put, List.setIfInBounds_toArray, List.set_cons_zero, List.set_cons_succ]
       refine wpAnyH_take (i := 14) (oi := ?oim189) (v := ?vm189) ?him189 (by kernel_rfl) (by kernel_rfl) (by kernel_rfl) ?hQm189 (Or.inl ⟨?hwm189, ?hym189⟩) hHeld ?restm189
       case him189 => simp only [List.getElem?_toArray, List.getElem?_cons_succ, List.getElem?_cons_zero]; rfl
       case hQm189 => exact fun _ _ _ h => h
       case hwm189 => rfl
       case hym189 => (intro w9 hSw; obtain ⟨c0, c1⟩ := (gr.ext hSw).cells; go_simp; (try with_reducible rfl))
       case restm189 =>
       try simp only [Act.put, List.setIfInBounds_toArray, List.set_cons_zero, List.set_cons_succ]
       refine wpAnyH_take (i := 15) (oi := ?oim190) (v := ?vm190) ?him190 (by kernel_rfl) (by kernel_rfl) (by kernel_rfl) ?hQm190 (Or.inl ⟨?hwm190, ?hym190⟩) hHeld ?restm190
       case him190 => simp only [List.getElem?_toArray, List.getElem?_cons_succ, List.getElem?_cons_zero]; rfl
       case hQm190 => exact fun _ _ _ h => h
       case hwm190 => rfl
       case hym190 => (intro w9 hSw; obtain ⟨c0, c1⟩ := (gr.ext hSw).cells; go_simp; (try with_reducible rfl))
       case restm190 =>
       try simp only [Act.put, List.setIfInBounds_toArray, List.set_cons_zero, List.set_cons_succ]
       refine wpAnyH_take (i := 16) (oi := ?oim191) (v := ?vm191) ?him191 (by kernel_rfl) (by kernel_rfl) (by kernel_rfl) ?hQm191 (Or.inl ⟨?hwm191, ?hym191⟩) hHeld ?restm191
       case him191 => simp only [List.getElem?_toArray, List.getElem?_cons_succ, List.getElem?_cons_zero]; rfl
       case hQm191 => exact fun _ _ _ h => h
       case hwm191 => rfl
       case hym191 => (intro w9 hSw; obtain ⟨c0, c1⟩ := (gr.ext hSw).cells; go_simp; (try with_reducible rfl))
       case restm191 =>
       try simp only [Act.put, List.setIfInBounds_toArray, List.set_cons_zero, List.set_cons_succ]
       refine wpAnyH_take (i := 17) (oi := ?oim192) (v := ?vm192) ?him192 (by kernel_rfl) (by kernel_rfl) (by kernel_rfl) ?hQm192 (Or.inl ⟨?hwm192, ?hym192⟩) hHeld ?restm192
       case him192 => simp only [List.getElem?_toArray, List.getElem?_cons_succ, List.getElem?_cons_zero]; rfl
       case hQm192 => exact fun _ _ _ h => h
       case hwm192 => rfl
       case hym192 => (intro w9 hSw; obtain ⟨c0, c1⟩ := (gr.ext hSw).cells; go_simp; (try with_reducible rfl))
       case restm192 =>
       try simp only [Act.put, List.setIfInBounds_toArray, List.set_cons_zero, List.set_cons_succ]
       refine wpAnyH_take (i := 18) (oi := ?oim193) (v := ?vm193) ?him193 (by kernel_rfl) (by kernel_rfl) (by kernel_rfl) ?hQm193 (Or.inl ⟨?hwm193, ?hym193⟩) hHeld ?restm193
       case him193 => simp only [List.getElem?_toArray, List.getElem?_cons_succ, List.getElem?_cons_zero]; rfl
       case hQm193 => exact fun _ _ _ h => h
       case hwm193 => rfl
       case hym193 => (intro w9 hSw; replace q0 := (Ext.cell hSw hbr).trans q0; go_simp; (try with_reducible rfl))
       case restm193 =>
       try simp only [Act.put, List.setIfInBounds_toArray, List.set_cons_zero, List.set_cons_succ]
       refine wpAnyH_take (i := 19) (oi := ?oim194) (v := ?vm194) ?him194 (by kernel_rfl) (by kernel_rfl) (by kernel_rfl) ?hQm194 (Or.inl ⟨?hwm194, ?hym194⟩) hHeld ?restm194
       case him194 => simp only [List.getElem?_toArray, List.getElem?_cons_succ, List.getElem?_cons_zero]; rfl
       case hQm194 => exact fun _ _ _ h => h
       case hwm194 => rfl
       case hym194 => (intro w9 hSw; obtain ⟨c0, c1⟩ := (gr.ext hSw).cells; go_simp; (try with_reducible rfl))
       case restm194 =>
       try simp only [Act.put, List.setIfInBounds_toArray, List.set_cons_zero, List.set_cons_succ]
       refine wpAnyH_take (i := 20) (oi := ?oim195) (v := ?vm195) ?him195 (by kernel_rfl) (by kernel_rfl) (by kernel_rfl) ?hQm195 (Or.inl ⟨?hwm195, ?hym195⟩) hHeld ?restm195
       case him195 => simp only [List.getElem?_toArray, List.getElem?_cons_succ, List.getElem?_cons_zero]; rfl
       case hQm195 => exact fun _ _ _ h => h
       case hwm195 => rfl
       case hym195 => (intro w9 hSw; obtain ⟨c0, c1⟩ := (gr.ext hSw).cells; go_simp; (try with_reducible rfl))
       case restm195 =>
       try simp only [Act.put, List.setIfInBounds_toArray, List.set_cons_zero, List.set_cons_succ]
       refine wpAnyH_take (i := 21) (oi := ?oim196) (v := ?vm196) ?him196 (by kernel_rfl) (by kernel_rfl) (by kernel_rfl) ?hQm196 (Or.inl ⟨?hwm196, ?hym196⟩) hHeld ?restm196
       case him196 => simp only [List.getElem?_toArray, List.getElem?_cons_succ, List.getElem?_cons_zero]; rfl
       case hQm196 => exact fun _ _ _ h => h
       case hwm196 => rfl
       case hym196 => (intro w9 hSw; obtain ⟨c0, c1⟩ := (gr.ext hSw).cells; go_simp; (try with_reducible rfl))
       case restm196 =>
       try simp only [Act.put, List.setIfInBounds_toArray, List.set_cons_zero, List.set_cons_succ]
       refine wpAnyH_take (i := 22) (oi := ?oim197) (v := ?vm197) ?him197 (by kernel_rfl) (by kernel_rfl) (by kernel_rfl) ?hQm197 (Or.inl ⟨?hwm197, ?hym197⟩) hHeld ?restm197
       case him197 => simp only [List.getElem?_toArray, List.getElem?_cons_succ, List.getElem?_cons_zero]; rfl
       case hQm197 => exact fun _ _ _ h => h
       case hwm197 => rfl
       case hym197 => (intro w9 hSw; obtain ⟨c0, c1⟩ := (gr.ext hSw).cells; go_simp; (try with_reducible rfl))
       case restm197 =>
       try simp only [Act.put, List.setIfInBounds_toArray, List.set_cons_zero, List.set_cons_succ]
       refine wpAnyH_take (i := 23) (oi := ?oim198) (v := ?vm198) ?him198 (by kernel_rfl) (by kernel_rfl) (by kernel_rfl) ?hQm198 (Or.inl ⟨?hwm198, ?hym198⟩) hHeld ?restm198
       case him198 => simp only [List.getElem?_toArray, List.getElem?_cons_succ, List.getElem?_cons_zero]; rfl
       case hQm198 => exact fun _ _ _ h => h
       case hwm198 => rfl
       case hym198 => (intro w9 hSw; obtain ⟨c0, c1⟩ := (gr.ext hSw).cells; go_simp; (try with_reducible rfl))
       case restm198 =>
       try simp only [Act.put, List.setIfInBounds_toArray, List.set_cons_zero, List.set_cons_succ]
       refine wpAnyH_take (i := 24) (oi := ?oim199) (v := ?vm199) ?him199 (by kernel_rfl) (by kernel_rfl) (by kernel_rfl) ?hQm199 (Or.inl ⟨?hwm199, ?hym199⟩) hHeld ?restm199
       case him199 => simp only [List.getElem?_toArray, List.getElem?_cons_succ, List.getElem?_cons_zero]; rfl
       case hQm199 => exact fun _ _ _ h => h
       case hwm199 => rfl
       case hym199 => (intro w9 hSw; obtain ⟨c0, c1⟩ := (gr.ext hSw).cells; go_simp; (try with_reducible rfl))
       case restm199 =>
       try simp only [Act.put, List.setIfInBounds_toArray, List.set_cons_zero, List.set_cons_succ]
       refine wpAnyH_take (i := 25) (oi := ?oim200) (v := ?vm200) ?him200 (by kernel_rfl) (by kernel_rfl) (by kernel_rfl) ?hQm200 (Or.inl ⟨?hwm200, ?hym200⟩) hHeld ?restm200
       case him200 => simp only [List.getElem?_toArray, List.getElem?_cons_succ, List.getElem?_cons_zero]; rfl
       case hQm200 => exact fun _ _ _ h => h
       case hwm200 => rfl
       case hym200 => (intro w9 hSw; replace p0 := (Ext.cell hSw hbr).trans p0; go_simp; (try with_reducible rfl))
       case restm200 =>
       try simp only [Act.put, List.setIfInBounds_toArray, List.set_cons_zero, List.set_cons_succ]
       refine wpAnyH_take (i := 26) (oi := ?oim201) (v := ?vm201) ?him201 (by kernel_rfl) (by kernel_rfl) (by kernel_rfl) ?hQm201 (Or.inl ⟨?hwm201, ?hym201⟩) hHeld ?restm201
       case him201 => simp only [List.getElem?_toArray, List.getElem?_cons_succ, List.getElem?_cons_zero]; rfl
       case hQm201 => exact fun _ _ _ h => h
       case hwm201 => rfl
       case hym201 => (intro w9 hSw; skip; go_simp; (try with_reducible rfl))
       case restm201 =>
       try simp only [Act.put, List.setIfInBounds_toArray, List.set_cons_zero, List.set_cons_succ]
       refine wpAnyH_take (i := 27) (oi := ?oim202) (v := ?vm202) ?him202 (by kernel_rfl) (by kernel_rfl) (by kernel_rfl) ?hQm202 (Or.inl ⟨?hwm202, ?hym202⟩) hHeld ?restm202
       case him202 => simp only [List.getElem?_toArray, List.getElem?_cons_succ, List.getElem?_cons_zero]; rfl
       case hQm202 => exact fun _ _ _ h => h
       case hwm202 => rfl
       case hym202 => (intro w9 hSw; skip; go_simp; (try with_reducible rfl))
       case restm202 =>
       try simp only [Act.put, List.setIfInBounds_toArray, List.set_cons_zero, List.set_cons_succ]
       refine wpAnyH_take (i := 28) (oi := ?oim203) (v := ?vm203) ?him203 (by kernel_rfl) (by kernel_rfl) (by kernel_rfl) ?hQm203 (Or.inl ⟨?hwm203, ?hym203⟩) hHeld ?restm203
       case him203 => simp only [List.getElem?_toArray, List.getElem?_cons_succ, List.getElem?_cons_zero]; rfl
       case hQm203 => exact fun _ _ _ h => h
       case hwm203 => rfl
       case hym203 => (intro w9 hSw; skip; go_simp; (try with_reducible rfl))
       case restm203 =>
       try simp only [Act.put, List.setIfInBounds_toArray, List.set_cons_zero, List.set_cons_succ]
       refine wpAnyH_done (by kernel_rfl) ?_ _
       go_wp2_with fail
       go_roundw
       case rel => exact ⟨j + 1 + 1, rfl, hlt, hd5, xr.trans hHeld⟩
       case measure => simp only [intOf]; omega
      ·have hd5 := Lib.hid (hd4.out h0)
       rw [decide_eq_false h0] at nl
       clear hd3 hd4 h0
       go_wp2_with fail
       refine wp_region_held_drew (S := Ext wr) (by kernel_rfl) ((Ext.refl wr).drew) (fun hHeld => ?_)
       refine wpAnyH_take (i := 0) (oi := ?oim204) (v := ?vm204) ?him204 (by kernel_rfl) (by kernel_rfl) (by kernel_rfl) ?hQm204 (Or.inl ⟨?hwm204, ?hym204⟩) hHeld ?restm204
       case him204 => simp only [List.getElem?_toArray, List.getElem?_cons_zero]; rfl
       case hQm204 => exact fun _ _ _ h => h
       case hwm204 => rfl
       case hym204 => (intro w9 hSw; obtain ⟨c0, c1⟩ := (gr.ext hSw).cells; go_simp; (try with_reducible rfl))
       case restm204 =>
       try simp only [Act.put, List.setIfInBounds_toArray, List.set_cons_zero, List.set_cons_succ]
       refine wpAnyH_take (i := 1) (oi := ?oim205) (v := ?vm205) ?him205 (by kernel_rfl) (by kernel_rfl) (by kernel_rfl) ?hQm205 (Or.inl ⟨?hwm205, ?hym205⟩) hHeld ?restm205
       case him205 => simp only [List.getElem?_toArray, List.getElem?_cons_succ, List.getElem?_cons_zero]; rfl
       case hQm205 => exact fun _ _ _ h => h
       case hwm205 => rfl
       case hym205 => (intro w9 hSw; obtain ⟨c0, c1⟩ := (gr.ext hSw).cells; go_simp; (try with_reducible rfl))
       case restm205 =>
       try simp only [Act.put, List.setIfInBounds_toArray, List.set_cons_zero, List.set_cons_succ]
       refine wpAnyH_take (i := 2) (oi := ?oim206) (v := ?vm206) ?him206 (by kernel_rfl) (by kernel_rfl) (by kernel_rfl) ?hQm206 (Or.inl ⟨?hwm206, ?hym206⟩) hHeld ?restm206
       case him206 => simp only [List.getElem?_toArray, List.getElem?_cons_succ, List.getElem?_cons_zero]; rfl
       case hQm206 => exact fun _ _ _ h => h
       case hwm206 => rfl
       case hym206 => (intro w9 hSw; obtain ⟨c0, c1⟩ := (gr.ext hSw).cells; go_simp; (try with_reducible rfl))
       case restm206 =>
       try simp only [Act.put, List.setIfInBounds_toArray, List.set_cons_zero, List.set_cons_succ]
       refine wpAnyH_take (i := 3) (oi := ?oim207) (v := ?vm207) ?him207 (by kernel_rfl) (by kernel_rfl) (by kernel_rfl) ?hQm207 (Or.inl ⟨?hwm207, ?hym207⟩) hHeld ?restm207
       case him207 => simp only [List.getElem?_toArray, List.getElem?_cons_succ, List.getElem?_cons_zero]; rfl
       case hQm207 => exact fun _ _ _ h => h
       case hwm207 => rfl
       case hym207 => (intro w9 hSw; obtain ⟨c0, c1⟩ := (gr.ext hSw).cells; go_simp; (try with_reducible rfl))
       case restm207 =>
       try simp only [Act.put, List.setIfInBounds_toArray, List.set_cons_zero, List.set_cons_succ]
       refine wpAnyH_take (i := 4) (oi := ?oim208) (v := ?vm208) ?him208 (by kernel_rfl) (by kernel_rfl) (by kernel_rfl) ?hQm208 (Or.inl ⟨?hwm208, ?hym208⟩) hHeld ?restm208
       case him208 => simp only [List.getElem?_toArray, List.getElem?_cons_succ, List.getElem?_cons_zero]; rfl
       case hQm208 => exact fun _ _ _ h => h
       case hwm208 => rfl
       case hym208 => (intro w9 hSw; replace p0 := (Ext.cell hSw hbr).trans p0; replace p1 := (Ext.cell hSw hbr).trans p1; replace p2 := (Ext.cell hSw hbr).trans p2; replace p3 := (Ext.cell hSw hbr).trans p3; replace p4 := (Ext.cell hSw hbr).trans p4; go_simp; (try with_reducible rfl))
       case restm208 =>
       try simp only [Act.put, List.setIfInBounds_toArray, List.set_cons_zero, List.set_cons_succ]
       refine wpAnyH_ready (rs := [5]) (by kernel_rfl) (by simp) (AllReadyH.cons (o := ?om209) ?im209 (fun K hK => ?_) AllReadyH.nil)
       case im209 => simp only [List.getElem?_toArray, List.getElem?_cons_succ, List.getElem?_cons_zero]; rfl
       rw [if_pos (by rfl)]
       go_simp
       go_at_call 36
       (with_reducible refine (RF _ hHeld).mono ?_)
       rintro e wz ⟨rfl, xz⟩
       refine hK.out _ _ (hHeld.trans xz) (fun hHeld => ?_)
       clear hK K
       try simp only [List.setIfInBounds_toArray, List.set_cons_zero, List.set_cons_succ]
       refine wpAnyH_take (i := 6) (oi := ?oim210) (v := ?vm210) ?him210 (by kernel_rfl) (by kernel_rfl) (by kernel_rfl) ?hQm210 (Or.inl ⟨?hwm210, ?hym210⟩) hHeld ?restm210
       case him210 => simp only [List.getElem?_toArray, List.getElem?_cons_succ, List.getElem?_cons_zero]; rfl
       case hQm210 => exact fun _ _ _ h => h
       case hwm210 => rfl
       case hym210 => (intro w9 hSw; skip; go_simp; (try with_reducible rfl))
       case restm210 =>
       try simp only [Act.put, List.setIfInBounds_toArray, List.set_cons_zero, List.set_cons_succ]
       refine wpAnyH_take (i := 7) (oi := ?oim211) (v := ?vm211) ?him211 (by kernel_rfl) (by kernel_rfl) (by kernel_rfl) ?hQm211 (Or.inl ⟨?hwm211, ?hym211⟩) hHeld ?restm211
       case him211 => simp only [List.getElem?_toArray, List.getElem?_cons_succ, List.getElem?_cons_zero]; rfl
       case hQm211 => exact fun _ _ _ h => h
       case hwm211 => rfl
       case hym211 => (intro w9 hSw; skip; go_simp; (try with_reducible rfl))
       case restm211 =>
       try simp only [Act.put, List.setIfInBounds_toArray, List.set_cons_zero, List.set_cons_succ]
       refine wpAnyH_take (i := 8) (oi := ?oim212) (v := ?vm212) ?him212 (by kernel_rfl) (by kernel_rfl) (by kernel_rfl) ?hQm212 (Or.inl ⟨?hwm212, ?hym212⟩) hHeld ?restm212
       case him212 => simp only [List.getElem?_toArray, List.getElem?_cons_succ, List.getElem?_cons_zero]; rfl
       case hQm212 => exact fun _ _ _ h => h
       case hwm212 => rfl
       case hym212 => (intro w9 hSw; obtain ⟨c0, c1⟩ := (gr.ext hSw).cells; go_simp; (try with_reducible rfl))
       case restm212 =>
       try simp only [Act.put, List.setIfInBounds_toArray, List.set_cons_zero, List.set_cons_succ]
       refine wpAnyH_take (i := 9) (oi := ?oim213) (v := ?vm213) ?him213 (by kernel_rfl) (by kernel_rfl) (by kernel_rfl) ?hQm213 (Or.inl ⟨?hwm213, ?hym213⟩) hHeld ?restm213
       case him213 => simp only [List.getElem?_toArray, List.getElem?_cons_succ, List.getElem?_cons_zero]; rfl
       case hQm213 => exact fun _ _ _ h => h
       case hwm213 => rfl
       case hym213 => (intro w9 hSw; obtain ⟨c0, c1⟩ := (gr.ext hSw).cells; go_simp; (try with_reducible rfl))
       case restm213 =>
       try simp only [Act.put, List.setIfInBounds_toArray, List.set_cons_zero, List.set_cons_succ]
       refine wpAnyH_take (i := 10) (oi := ?oim214) (v := ?vm214) ?him214 (by kernel_rfl) (by kernel_rfl) (by kernel_rfl) ?hQm214 (Or.inl ⟨?hwm214, ?hym214⟩) hHeld ?restm214
       case him214 => simp only [List.getElem?_toArray, List.getElem?_cons_succ, List.getElem?_cons_zero]; rfl
       case hQm214 => exact fun _ _ _ h => h
       case hwm214 => rfl
       case hym214 => (intro w9 hSw; obtain ⟨c0, c1⟩ := (gr.ext hSw).cells; go_simp; (try with_reducible rfl))
       case restm214 =>
       try simp only [Act.put, List.setIfInBounds_toArray, List.set_cons_zero, List.set_cons_succ]
       refine wpAnyH_take (i := 11) (oi := ?oim215) (v := ?vm215) ?him215 (by kernel_rfl) (by kernel_rfl) (by kernel_rfl) ?hQm215 (Or.inl ⟨?hwm215, ?hym215⟩) hHeld ?restm215
       case him215 => simp only [List.getElem?_toArray, List.getElem?_cons_succ, List.getElem?_cons_zero]; rfl
       case hQm215 => exact fun _ _ _ h => h
       case hwm215 => rfl
       case hym215 => (intro w9 hSw; obtain ⟨c0, c1⟩ := (gr.ext hSw).cells; go_simp; (try with_reducible rfl))
       case restm215 =>
       try simp only [Act.put, List.setIfInBounds_toArray, List.set_cons_zero, List.set_cons_succ]
       refine wpAnyH_take (i := 12) (oi := ?oim216) (v := ?vm216) ?him216 (by kernel_rfl) (by kernel_rfl) (by kernel_rfl) ?hQm216 (Or.inl ⟨?hwm216, ?hym216⟩) hHeld ?restm216
       case him216 => simp only [List.getElem?_toArray, List.getElem?_cons_succ, List.getElem?_cons_zero]; rfl
       case hQm216 => exact fun _ _ _ h => h
       case hwm216 => rfl
       case hym216 => (intro w9 hSw; obtain ⟨c0, c1⟩ := (gr.ext hSw).cells; go_simp; (try with_reducible rfl))
       case restm216 =>
       try simp only [Act.put, List.setIfInBounds_toArray, List.set_cons_zero, List.set_cons_succ]
       refine wpAnyH_take (i := 13) (oi := ?oim217) (v := ?vm217) ?him217 (by kernel_rfl) (by kernel_rfl) (by kernel_rfl) ?hQm217 (Or.inl ⟨?hwm217, ?hym217⟩) hHeld ?restm217
       case him217 => simp only [List.getElem?_toArray, List.getElem?_cons_succ, List.getElem?_cons_zero]; rfl
       case hQm217 => exact fun _ _ _ h => h
       case hwm217 => rfl
       case hym217 => (intro w9 hSw; obtain ⟨c0, c1⟩ := (gr.ext hSw).cells; go_simp; (try with_reducible rfl))
       case restm217 =>
       try simp only [Act.put, List.setIfInBounds_toArray, List.set_cons_zero, List.set_cons_succ]
       refine wpAnyH_take (i := 14) (oi := ?oim218) (v := ?vm218) ?him218 (by kernel_rfl) (by kernel_rfl) (by kernel_rfl) ?hQm218 (Or.inl ⟨?hwm218, ?hym218⟩) hHeld ?restm218
       case him218 => simp only [List.getElem?_toArray, List.getElem?_cons_succ, List.getElem?_cons_zero]; rfl
       case hQm218 => exact fun _ _ _ h => h
       case hwm218 => rfl
       case hym218 => (intro w9 hSw; obtain ⟨c0, c1⟩ := (gr.ext hSw).cells; go_simp; (try with_reducible rfl))
       case restm218 =>
       try simp only [Act.put, List.setIfInBounds_toArray, List.set_cons_zero, List.set_cons_succ]
       refine wpAnyH_take (i := 15) (oi := ?oim219) (v := ?vm219) ?him219 (by kernel_rfl) (by kernel_rfl) (by kernel_rfl) ?hQm219 (Or.inl ⟨?hwm219, ?hym219⟩) hHeld ?restm219
       case him219 => simp only [List.getElem?_toArray, List.getElem?_cons_succ, List.getElem?_cons_zero]; rfl
       case hQm219 => exact fun _ _ _ h => h
       case hwm219 => rfl
       case hym219 => (intro w9 hSw; obtain ⟨c0, c1⟩ := (gr.ext hSw).cells; go_simp; (try with_reducible rfl))
       case restm219 =>
       try simp only [Act.put, List.setIfInBounds_toArray, List.set_cons_zero, List.set_cons_succ]
       refine wpAnyH_take (i := 16) (oi := ?oim220) (v := ?vm220) ?him220 (by kernel_rfl) (by kernel_rfl) (by kernel_rfl) ?hQm220 (Or.inl ⟨?hwm220, ?hym220⟩) hHeld ?restm220
       case him220 => simp only [List.getElem?_toArray, List.getElem?_cons_succ, List.getElem?_cons_zero]; rfl
       case hQm220 => exact fun _ _ _ h => h
       case hwm220 => rfl
       case hym220 => (intro w9 hSw; obtain ⟨c0, c1⟩ := (gr.ext hSw).cells; go_simp; (try with_reducible rfl))
       case restm220 =>
       try simp only [Act.put, List.setIfInBounds_toArray, List.set_cons_zero, List.set_cons_succ]
       refine wpAnyH_take (i := 17) (oi := ?oim221) (v := ?vm221) ?him221 (by kernel_rfl) (by kernel_rfl) (by kernel_rfl) ?hQm221 (Or.inl ⟨?hwm221, ?hym221⟩) hHeld ?restm221
       case him221 => simp only [List.getElem?_toArray, List.getElem?_cons_succ, List.getElem?_cons_zero]; rfl
       case hQm221 => exact fun _ _ _ h => h
       case hwm221 => rfl
       case hym221 => (intro w9 hSw; obtain ⟨c0, c1⟩ := (gr.ext hSw).cells; go_simp; (try with_reducible rfl))
       case restm221 =>
       try simp only [Act.put, List.setIfInBounds_toArray, List.set_cons_zero, List.set_cons_succ]
       refine wpAnyH_take (i := 18) (oi := ?oim222) (v := ?vm222) ?him222 (by kernel_rfl) (by kernel_rfl) (by kernel_rfl) ?hQm222 (Or.inl ⟨?hwm222, ?hym222⟩) hHeld ?restm222
       case him222 => simp only [List.getElem?_toArray, List.getElem?_cons_succ, List.getElem?_cons_zero]; rfl
       case hQm222 => exact fun _ _ _ h => h
       case hwm222 => rfl
       case hym222 => (intro w9 hSw; replace q0 := (Ext.cell hSw hbr).trans q0; go_simp; (try with_reducible rfl))
       case restm222 =>
       try simp only [Act.put, List.setIfInBounds_toArray, List.set_cons_zero, List.set_cons_succ]
       refine wpAnyH_take (i := 19) (oi := ?oim223) (v := ?vm223) ?him223 (by kernel_rfl) (by kernel_rfl) (by kernel_rfl) ?hQm223 (Or.inl ⟨?hwm223, ?hym223⟩) hHeld ?restm223
       case him223 => simp only [List.getElem?_toArray, List.getElem?_cons_succ, List.getElem?_cons_zero]; rfl
       case hQm223 => exact fun _ _ _ h => h
       case hwm223 => rfl
       case hym223 => (intro w9 hSw; obtain ⟨c0, c1⟩ := (gr.ext hSw).cells; go_simp; (try with_reducible rfl))
       case restm223 =>
       try simp only [Act.put, List.setIfInBounds_toArray, List.set_cons_zero, List.set_cons_succ]
       refine wpAnyH_take (i := 20) (oi := ?oim224) (v := ?vm224) ?him224 (by kernel_rfl) (by kernel_rfl) (by kernel_rfl) ?hQm224 (Or.inl ⟨?hwm224, ?hym224⟩) hHeld ?restm224
       case him224 => simp only [List.getElem?_toArray, List.getElem?_cons_succ, List.getElem?_cons_zero]; rfl
       case hQm224 => exact fun _ _ _ h => h
       case hwm224 => rfl
       case hym224 => (intro w9 hSw; obtain ⟨c0, c1⟩ := (gr.ext hSw).cells; go_simp; (try with_reducible rfl))
       case restm224 =>
       try simp only [Act.put, List.setIfInBounds_toArray, List.set_cons_zero, List.set_cons_succ]
       refine wpAnyH_take (i := 21) (oi := ?oim225) (v := ?vm225) ?him225 (by kernel_rfl) (by kernel_rfl) (by kernel_rfl) ?hQm225 (Or.inl ⟨?hwm225, ?hym225⟩) hHeld ?restm225
       case him225 => simp only [List.getElem?_toArray, List.getElem?_cons_succ, List.getElem?_cons_zero]; rfl
       case hQm225 => exact fun _ _ _ h => h
       case hwm225 => rfl
       case hym225 => (intro w9 hSw; obtain ⟨c0, c1⟩ := (gr.ext hSw).cells; go_simp; (try with_reducible rfl))
       case restm225 =>
       try simp only [Act.put, List.setIfInBounds_toArray, List.set_cons_zero, List.set_cons_succ]
       refine wpAnyH_take (i := 22) (oi := ?oim226) (v := ?vm226) ?him226 (by kernel_rfl) (by kernel_rfl) (by kernel_rfl) ?hQm226 (Or.inl ⟨?hwm226, ?hym226⟩) hHeld ?restm226
       case him226 => simp only [List.getElem?_toArray, List.getElem?_cons_succ, List.getElem?_cons_zero]; rfl
       case hQm226 => exact fun _ _ _ h => h
       case hwm226 => rfl
       case hym226 => (intro w9 hSw; obtain ⟨c0, c1⟩ := (gr.ext hSw).cells; go_simp; (try with_reducible rfl))
       case restm226 =>
       try simp only [Act.put, List.setIfInBounds_toArray, List.set_cons_zero, List.set_cons_succ]
       refine wpAnyH_take (i := 23) (oi := ?oim227) (v := ?vm227) ?him227 (by kernel_rfl) (by kernel_rfl) (by kernel_rfl) ?hQm227 (Or.inl ⟨?hwm227, ?hym227⟩) hHeld ?restm227
       case him227 => simp only [List.getElem?_toArray, List.getElem?_cons_succ, List.getElem?_cons_zero]; rfl
       case hQm227 => exact fun _ _ _ h => h
       case hwm227 => rfl
       case hym227 => (intro w9 hSw; obtain ⟨c0, c1⟩ := (gr.ext hSw).cells; go_simp; (try with_reducible rfl))
       case restm227 =>
       try simp only [Act.put, List.setIfInBounds_toArray, List.set_cons_zero, List.set_cons_succ]
       refine wpAnyH_take (i := 24) (oi := ?oim228) (v := ?vm228) ?him228 (by kernel_rfl) (by kernel_rfl) (by kernel_rfl) ?hQm228 (Or.inl ⟨?hwm228, ?hym228⟩) hHeld ?restm228
       case him228 => simp only [List.getElem?_toArray, List.getElem?_cons_succ, List.getElem?_cons_zero]; rfl
       case hQm228 => exact fun _ _ _ h => h
       case hwm228 => rfl
       case hym228 => (intro w9 hSw; obtain ⟨c0, c1⟩ := (gr.ext hSw).cells; go_simp; (try with_reducible rfl))
       case restm228 =>
       try simp only [Act.put, List.setIfInBounds_toArray, List.set_cons_zero, List.set_cons_succ]
       refine wpAnyH_take (i := 25) (oi := ?oim229) (v := ?vm229) ?him229 (by kernel_rfl) (by kernel_rfl) (by kernel_rfl) ?hQm229 (Or.inl ⟨?hwm229, ?hym229⟩) hHeld ?restm229
       case him229 => simp only [List.getElem?_toArray, List.getElem?_cons_succ, List.getElem?_cons_zero]; rfl
       case hQm229 => exact fun _ _ _ h => h
       case hwm229 => rfl
       case hym229 => (intro w9 hSw; replace p0 := (Ext.cell hSw hbr).trans p0; go_simp; (try with_reducible rfl))
       case restm229 =>
       try simp only [Act.put, List.setIfInBounds_toArray, List.set_cons_zero, List.set_cons_succ]
       refine wpAnyH_take (i := 26) (oi := ?oim230) (v := ?vm230) ?him230 (by kernel_rfl) (by kernel_rfl) (by kernel_rfl) ?hQm230 (Or.inl ⟨?hwm230, ?hym230⟩) hHeld ?restm230
       case him230 => simp only [List.getElem?_toArray, List.getElem?_cons_succ, List.getElem?_cons_zero]; rfl
       case hQm230 => exact fun _ _ _ h => h
       case hwm230 => rfl
       case hym230 => (intro w9 hSw; skip; go_simp; (try with_reducible rfl))
       case restm230 =>
       try simp only [Act.put, List.setIfInBounds_toArray, List.set_cons_zero, List.set_cons_succ]
       refine wpAnyH_take (i := 27) (oi := ?oim231) (v := ?vm231) ?him231 (by kernel_rfl) (by kernel_rfl) (by kernel_rfl) ?hQm231 (Or.inl ⟨?hwm231, ?hym231⟩) hHeld ?restm231
       case him231 => simp only [List.getElem?_toArray, List.getElem?_cons_succ, List.getElem?_cons_zero]; rfl
       case hQm231 => exact fun _ _ _ h => h
       case hwm231 => rfl
       case hym231 => (intro w9 hSw; skip; go_simp; (try with_reducible rfl))
       case restm231 =>
       try simp only [Act.put, List.setIfInBounds_toArray, List.set_cons_zero, List.set_cons_succ]
       refine wpAnyH_take (i := 28) (oi := ?oim232) (v := ?vm232) ?him232 (by kernel_rfl) (by kernel_rfl) (by kernel_rfl) ?hQm232 (Or.inl ⟨?hwm232, ?hym232⟩) hHeld ?restm232
       case him232 => simp only [List.getElem?_toArray, List.getElem?_cons_succ, List.getElem?_cons_zero]; rfl
       case hQm232 => exact fun _ _ _ h => h
       case hwm232 => rfl
       case hym232 => (intro w9 hSw; skip; go_simp; (try with_reducible rfl))
       case restm232 =>
       try simp only [Act.put, List.setIfInBounds_toArray, List.set_cons_zero, List.set_cons_succ]
       refine wpAnyH_done (by kernel_rfl) ?_ _
       go_wp2_with fail
       go_ret
       exact ⟨retI hd5.out, (z1.trans xr).trans hHeld⟩
  ·have hd := hg.out
   rw [List.drop_eq_nil_of_le (by simp; omega)] at hd
   have hGt : G = true := by
    rw [← hd]
    cases ((l.map FamD.y).take k).getLast?.map FamY.nm <;> rfl
   have hR2 := hR.out
   rw [hGt, if_pos (by simp)] at hR2
   have i0 : ¬ (k : Int) < (l.length : Int) := by omega
   clear hd hg hA hs hR
   by_cases h30 : l.length ≤ 30
   ·have j1 : ¬ (l.length : Int) > 30 := by omega
    by_cases h120 : n ≤ 120
    ·have j2 : ¬ (n : Int) > 120 := by omega
     rw [if_pos ⟨h30, h120⟩] at hR2
     replace hR2 := Lib.hid hR2
     go_wp2_with fail
     (with_reducible refine (PO _ (z1.trans xr)).mono ?_)
     rintro e w5 ⟨rfl, x5⟩
     go_wp2_with fail
     go_ret
     exact ⟨retI hR2.out, (z1.trans xr).trans x5⟩
    ·have j2 : (n : Int) > 120 := by omega
     rw [if_neg (fun h => h120 h.2)] at hR2
     replace hR2 := Lib.hid hR2
     go_wp2_with fail
     (with_reducible refine (PO _ (z1.trans xr)).mono ?_)
     rintro e w5 ⟨rfl, x5⟩
     go_wp2_with fail
     go_ret
     exact ⟨retI hR2.out, (z1.trans xr).trans x5⟩
   ·have j1 : (l.length : Int) > 30 := by omega
    rw [if_neg (fun h => h30 h.1)] at hR2
    replace hR2 := Lib.hid hR2
    go_wp2_with fail
    go_ret
    exact ⟨retI hR2.out, z1.trans xr⟩
end Go.Proofs.YtjjnmefihdjglaaGreat
