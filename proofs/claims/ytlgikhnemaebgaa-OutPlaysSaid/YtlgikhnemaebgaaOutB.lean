/- The contracts of Builder.Len and Builder.String over a text that has a bound; of out.New, Len, Left, Text, Full. -/
import Derived.Test.YtlgikhnemaebgaaOutA
namespace Go.Proofs.Ytlgikhnemaebgaa
open Go.RowKit

set_option maxHeartbeats 1000000 in
set_option maxRecDepth 100000 in
theorem BLen_any {B b : Nat} {v : Value} {l : List UInt8} {most : Int} {full : Bool} {w : World} (h : OutIs B b v l most full w) :
    Calls Try.prog 15 #[.pointer (some ⟨b, 0, none⟩)] w fun e w' => e = .returned (.int .i64 l.length) ∧ w = w' := by
  obtain ⟨ao, cap, rfl⟩ := h.shape
  obtain ⟨hB, p, hp, hb, hown, hnil⟩ := h
  have c1 : w.cell? ⟨b, 1, none⟩ = some (.slice ao l.length cap) := by rw [Lib.cell_of_heap hb]; rfl
  clear hB hp hb hown hnil
  go_enter Try.func15, Try.ntmps15
  go_wp2
  go_ret
  exact ⟨rfl, rfl⟩

theorem OutIs.drewN {B b : Nat} {v : Value} {l : List UInt8} {most : Int} {full : Bool} {w : World} (h : OutIs B b v l most full w) (n : Nat) : OutIs B b v l most full (w.drewN n) := h
theorem OutIs.drew {B b : Nat} {v : Value} {l : List UInt8} {most : Int} {full : Bool} {w : World} (h : OutIs B b v l most full w) : OutIs B b v l most full w.drew := h

theorem String_froze {B b g cap : Nat} {l : List UInt8} {most : Int} {full : Bool} {w : World} (h : OutIs B b (.slice (some ⟨g, 0, none⟩) l.length cap) l most full w) (h0 : l ≠ []) :
    OutIs B b (.slice (some ⟨g, 0, none⟩) l.length cap) l most full (w.freeze ⟨g, 0, none⟩ l.length) ∧ Kept (Its b (.slice (some ⟨g, 0, none⟩) l.length cap)) w (w.freeze ⟨g, 0, none⟩ l.length) := by
  have hne := h.ne
  obtain ⟨hB, p, hp, hb, hown, hnil⟩ := h
  have hgb : g ≠ b := fun e => hne (by simp [Value.ownBlock, e])
  have hl : l.length ≠ 0 := by simpa using h0
  unfold World.freeze
  rw [if_neg hl]
  refine ⟨⟨hB, p, hp, ?_, ⟨hown.1, ?_⟩, hnil⟩, ⟨rfl, rfl, rfl, by simp, ?_⟩⟩
  · simp only [Array.getElem?_modify]
    rw [if_neg hgb]; exact hb
  · rcases hown.2 with ⟨hv, _⟩ | ⟨g', cap', cur, fz, hv, hbg, hg, hfz, rest⟩
    · cases hv
    · injection hv with ha _ hcap
      injection ha with ha
      injection ha with hgg _ _
      subst hgg
      subst hcap
      obtain ⟨lo, hi⟩ := fz
      refine .inr ⟨g, _, cur, (if lo == hi then (0, 0 + l.length) else (min lo 0, max hi (0 + l.length))), rfl, hbg, ?_, ?_, rest⟩
      · simp [Array.getElem?_modify, hg]
      · simp only at hfz
        split <;> simp <;> omega
  · intro k _ hk
    simp only [Array.getElem?_modify]
    rw [if_neg (fun e => hk (.inr (by simp [Value.ownBlock, e])))]

set_option maxHeartbeats 2000000 in
set_option maxRecDepth 100000 in
theorem String_some {B b : Nat} {v : Value} {l : List UInt8} {most : Int} {full : Bool} {w : World} (h : OutIs B b v l most full w) (h0 : l ≠ []) :
    Calls Try.prog 14 #[.pointer (some ⟨b, 0, none⟩)] w fun e w' => e = .returned (.string ⟨l.toArray⟩) ∧ OutIs B b v l most full w' ∧ Kept (Its b v) w w' := by
  have hl0 : l.length ≠ 0 := by simpa using h0
  have hh := h
  obtain ⟨hB, p, hp, hb, hown, hnil⟩ := hh
  rw [Lib.byteCells.eq_def] at hown
  rcases hown.2 with ⟨_, hz⟩ | ⟨g, cap, cur, fz, rfl, hbg, hg, hfz, hnc, hcm, hcs, htake⟩
  · exact absurd hz hl0
  have c1 : w.drew.cell? ⟨b, 1, none⟩ = some (.slice (some ⟨g, 0, none⟩) l.length cap) := by
    have : w.drew.heap[b]? = some (.cells #[p, .slice (some ⟨g, 0, none⟩) l.length cap, .int .i64 most, .bool full] 39 (0, 0)) := hb
    rw [Lib.cell_of_heap this]; rfl
  have hSD : (Builtin.unsafeSliceData_ #[33] 44 #[.slice (some ⟨g, 0, none⟩) l.length cap]).run Try.prog w.drew = .ok (.pointer (some ⟨g, 0, none⟩)) w.drew :=
    Lib.run_unsafeSliceData_row _ _ _ _ _ _ (by omega)
  have hUS : (Builtin.unsafeString_ #[44, 3] 9 #[.pointer (some ⟨g, 0, none⟩), .int .i64 l.length]).run Try.prog w.drew = .ok (.string ⟨l.toArray⟩) (w.drew.freeze ⟨g, 0, none⟩ l.length) := by
    refine Lib.run_unsafeString_row w.drew 44 3 9 5 (by kernel_rfl) (by kernel_rfl) g cur.size (by have hg' : w.drew.heap[g]? = some (.cells cur 5 fz) := hg; simp [World.shape?, hg']) l h0 (by omega) (by unfold maxLen at hcm; omega) ?_
    intro j x hx
    exact hown.cells (g := g) rfl j (.int .u8 x.toNat) (by simp [hx])
  have hF := String_froze (w := w.drew) h.drew h0
  have HF := Lib.hid hF
  clear hF hown hb hg htake hcs hnil hfz
  go_enter Try.func14, Try.ntmps14
  go_wp2
  go_region
  all_goals (go_wp2; go_ret; exact ⟨rfl, HF.out.1, (Kept.refl _ w).drew.trans HF.out.2 (fun _ _ h => h)⟩)

set_option maxHeartbeats 2000000 in
set_option maxRecDepth 100000 in
theorem String_none {B b : Nat} {v : Value} {most : Int} {full : Bool} {w : World} (h : OutIs B b v [] most full w) :
    Calls Try.prog 14 #[.pointer (some ⟨b, 0, none⟩)] w fun e w' => e = .returned (.string ⟨#[]⟩) ∧ OutIs B b v [] most full w' ∧ Kept (Its b v) w w' := by
  obtain ⟨hB, p, hp, hb, hown, hnil⟩ := h
  obtain rfl := hnil rfl
  have H : Hid (OutIs B b (.slice none 0 0) [] most full w) := ⟨hB, p, hp, hb, hown, hnil⟩
  have c1 : w.drew.cell? ⟨b, 1, none⟩ = some (.slice none 0 0) := by
    have : w.drew.heap[b]? = some (.cells #[p, .slice none 0 0, .int .i64 most, .bool full] 39 (0, 0)) := hb
    rw [Lib.cell_of_heap this]; rfl
  have hSD : (Builtin.unsafeSliceData_ #[33] 44 #[.slice none 0 0]).run Try.prog w.drew = .ok (.pointer none) w.drew := rfl
  have hUS : (Builtin.unsafeString_ #[44, 3] 9 #[.pointer none, .int .i64 0]).run Try.prog w.drew = .ok (.string .empty) w.drew := Lib.run_unsafeString_none w.drew _ _ _ none
  clear hb hown hnil hp
  go_enter Try.func14, Try.ntmps14
  go_wp2
  go_region
  all_goals (go_wp2; go_ret; exact ⟨rfl, H.out.drew, (Kept.refl _ w).drew⟩)

theorem String_any {B b : Nat} {v : Value} {l : List UInt8} {most : Int} {full : Bool} {w : World} (h : OutIs B b v l most full w) :
    Calls Try.prog 14 #[.pointer (some ⟨b, 0, none⟩)] w fun e w' => e = .returned (.string ⟨l.toArray⟩) ∧ OutIs B b v l most full w' ∧ Kept (Its b v) w w' := by
  by_cases h0 : l = []
  · subst h0; exact String_none h
  · exact String_some h h0

/-- How much may be. -/
def roomOf (most : Int) : Int := if most < 0 then 0 else if 20000 < most then 20000 else most
theorem roomOf_range (most : Int) : 0 ≤ roomOf most ∧ roomOf most ≤ 20000 := by unfold roomOf; (repeat' split) <;> omega

set_option maxHeartbeats 1000000 in
set_option maxRecDepth 100000 in
theorem New_any (B : Nat) (most : Int) (w : World) (hB : B ≤ w.heap.size) :
    Calls Try.prog 7 #[.int .i64 most] w fun e w' => e = .returned (.pointer (some ⟨w.heap.size, 0, none⟩)) ∧ OutIs B w.heap.size (.slice none 0 0) [] (roomOf most) false w' ∧ Ext w w' ∧ w'.heap.size = w.heap.size + 1 := by
  have key : ∀ r : Int, OutIs B w.heap.size (.slice none 0 0) [] r false (w.alloc (.cells #[.pointer none, .slice none 0 0, .int .i64 r, .bool false] 39)) := fun r =>
    ⟨hB, .pointer none, .inl rfl, heap_alloc_new w _, ⟨rfl, .inl ⟨rfl, rfl⟩⟩, fun _ => rfl⟩
  have HK := Lib.hid key
  clear key
  by_cases h0 : most < 0
  · have HR : Hid (roomOf most = 0) := by unfold Hid roomOf; rw [if_pos h0]
    go_enter Try.func7, Try.ntmps7
    go_wp2
    go_ret
    rw [HR.out]
    exact ⟨rfl, HK.out _, (Ext.refl _).alloc _, World.size_alloc _ _⟩
  · by_cases h1 : 20000 < most
    · have HR : Hid (roomOf most = 20000) := by unfold Hid roomOf; rw [if_neg h0, if_pos h1]
      go_enter Try.func7, Try.ntmps7
      go_wp2
      go_ret
      rw [HR.out]
      exact ⟨rfl, HK.out _, (Ext.refl _).alloc _, World.size_alloc _ _⟩
    · have HR : Hid (roomOf most = most) := by unfold Hid roomOf; rw [if_neg h0, if_neg h1]
      go_enter Try.func7, Try.ntmps7
      go_wp2
      go_ret
      rw [HR.out]
      exact ⟨rfl, HK.out _, (Ext.refl _).alloc _, World.size_alloc _ _⟩

set_option maxHeartbeats 1000000 in
set_option maxRecDepth 100000 in
theorem Left_any {B b : Nat} {v : Value} {l : List UInt8} {most : Int} {full : Bool} {w : World} (h : OutIs B b v l most full w) (hm : 0 ≤ most ∧ most ≤ 20000) (hl : l.length ≤ most) :
    Calls Try.prog 11 #[.pointer (some ⟨b, 0, none⟩)] w fun e w' => e = .returned (.int .i64 (if full then 0 else most - l.length)) ∧ ∃ n, w' = w.drewN n := by
  have hh := h
  obtain ⟨hB, p, hp, hb, hown, hnil⟩ := hh
  have c1 : w.cell? ⟨b, 2, none⟩ = some (.int .i64 most) := by rw [Lib.cell_of_heap hb]; rfl
  have c2 : w.cell? ⟨b, 3, none⟩ = some (.bool full) := by rw [Lib.cell_of_heap hb]; rfl
  clear hB hp hb hown hnil
  cases full with
  | true =>
    go_enter Try.func11, Try.ntmps11
    go_wp2
    go_ret
    exact ⟨rfl, 0, rfl⟩
  | false =>
    go_enter Try.func11, Try.ntmps11
    go_wp2_with fail
    go_quiet ((go_at_call 15; exact Calls.quiet_of_same ((BLen_any (h.drewN _)).mono (fun _ _ x => ⟨x.1, x.2.symm⟩))))
    go_wp2_with fail
    go_ret
    exact ⟨rfl, _, rfl⟩

set_option maxHeartbeats 1000000 in
set_option maxRecDepth 100000 in
theorem OLen_any {B b : Nat} {v : Value} {l : List UInt8} {most : Int} {full : Bool} {w : World} (h : OutIs B b v l most full w) :
    Calls Try.prog 10 #[.pointer (some ⟨b, 0, none⟩)] w fun e w' => e = .returned (.int .i64 l.length) ∧ w = w' := by
  go_enter Try.func10, Try.ntmps10
  go_wp2_with fail
  refine (BLen_any h).mono ?_
  rintro e w1 ⟨rfl, rfl⟩
  go_wp2_with fail
  go_ret
  exact ⟨rfl, rfl⟩

set_option maxHeartbeats 1000000 in
set_option maxRecDepth 100000 in
theorem Full_any {B b : Nat} {v : Value} {l : List UInt8} {most : Int} {full : Bool} {w : World} (h : OutIs B b v l most full w) :
    Calls Try.prog 12 #[.pointer (some ⟨b, 0, none⟩)] w fun e w' => e = .returned (.bool full) ∧ w = w' := by
  obtain ⟨hB, p, hp, hb, hown, hnil⟩ := h
  have c2 : w.cell? ⟨b, 3, none⟩ = some (.bool full) := by rw [Lib.cell_of_heap hb]; rfl
  clear hB hp hb hown hnil
  go_enter Try.func12, Try.ntmps12
  go_wp2_with fail
  go_ret
  exact ⟨rfl, rfl⟩

set_option maxHeartbeats 1000000 in
set_option maxRecDepth 100000 in
theorem Text_any {B b : Nat} {v : Value} {l : List UInt8} {most : Int} {full : Bool} {w : World} (h : OutIs B b v l most full w) :
    Calls Try.prog 9 #[.pointer (some ⟨b, 0, none⟩)] w fun e w' => e = .returned (.string ⟨l.toArray⟩) ∧ OutIs B b v l most full w' ∧ Kept (Its b v) w w' := by
  go_enter Try.func9, Try.ntmps9
  go_wp2_with fail
  refine (String_any h).mono ?_
  rintro e w1 ⟨rfl, h1, k1⟩
  go_wp2_with fail
  go_ret
  exact ⟨rfl, h1, k1⟩

end Go.Proofs.Ytlgikhnemaebgaa
