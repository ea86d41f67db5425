/- dec.Parse tells what parseV says, of every text (alias Tryd). -/
import Derived.Test.YtiancppdcfahaaaDoorDcD
namespace Go.Proofs.YtiancppdcfahaaaDoor
open Go.RowKit

theorem cutA (s : ByteArray) (f : Nat) (hs : s.size ≤ 9223372036854775807) (hf : f = 0 ∨ f = 1) (hm : minusB s = (f == 1)) (hsz : f ≤ s.size) (hn : runL ((byL s).drop f) = 0) : CutAt s emp emp f false := by
  rcases hf with rfl | rfl
  · exact Cut_A0 s 0 hs hm hsz hn rfl
  · exact Cut_A1 s 0 hs hm hsz hn rfl
theorem cutB (s : ByteArray) (f n p : Nat) (hs : s.size ≤ 9223372036854775807) (hf : f = 0 ∨ f = 1) (hm : minusB s = (f == 1)) (hsz : f ≤ s.size) (hn : runL ((byL s).drop f) = n) (hp : f + n = p) (h0 : n ≠ 0) (h1 : p < s.size) (h2 : s[p].toNat ≠ 46) : CutAt s emp emp p false := by
  rcases hf with rfl | rfl
  · obtain rfl : n = p := by omega
    exact Cut_B0 s n hs hm hsz hn h0 h1 h2
  · subst hp; exact Cut_B1 s n hs hm hsz hn h0 h1 h2
theorem cutC (s : ByteArray) (f n : Nat) (hs : s.size ≤ 9223372036854775807) (hf : f = 0 ∨ f = 1) (hm : minusB s = (f == 1)) (hsz : f ≤ s.size) (hn : runL ((byL s).drop f) = n) (hp : f + n = s.size) (h0 : n ≠ 0) : CutAt s (s.extract f s.size) emp s.size true := by
  rcases hf with rfl | rfl
  · exact Cut_C0 s n hs hm hsz hn h0 (by omega)
  · exact Cut_C1 s n hs hm hsz hn h0 hp
theorem cutD (s : ByteArray) (f n p : Nat) (hs : s.size ≤ 9223372036854775807) (hf : f = 0 ∨ f = 1) (hm : minusB s = (f == 1)) (hsz : f ≤ s.size) (hn : runL ((byL s).drop f) = n) (hp : f + n = p) (h0 : n ≠ 0) (h1 : p < s.size) (h2 : s[p].toNat = 46) (hn2 : runL ((byL s).drop (p + 1)) = 0) : CutAt s emp emp (p + 1) false := by
  rcases hf with rfl | rfl
  · obtain rfl : n = p := by omega
    exact Cut_D0 s n hs hm hsz hn h0 h1 h2 0 hn2 rfl
  · subst hp; exact Cut_D1 s n hs hm hsz hn h0 h1 h2 0 hn2 rfl
theorem cutE (s : ByteArray) (f n p n2 : Nat) (hs : s.size ≤ 9223372036854775807) (hf : f = 0 ∨ f = 1) (hm : minusB s = (f == 1)) (hsz : f ≤ s.size) (hn : runL ((byL s).drop f) = n) (hp : f + n = p) (h0 : n ≠ 0) (h1 : p < s.size) (h2 : s[p].toNat = 46) (hn2 : runL ((byL s).drop (p + 1)) = n2) (h3 : n2 ≠ 0) (h4 : p + 1 + n2 < s.size) : CutAt s emp emp (p + 1 + n2) false := by
  rcases hf with rfl | rfl
  · obtain rfl : n = p := by omega
    exact Cut_E0 s n hs hm hsz hn h0 h1 h2 n2 hn2 h3 h4
  · subst hp; exact Cut_E1 s n hs hm hsz hn h0 h1 h2 n2 hn2 h3 h4
theorem cutF (s : ByteArray) (f n p n2 : Nat) (hs : s.size ≤ 9223372036854775807) (hf : f = 0 ∨ f = 1) (hm : minusB s = (f == 1)) (hsz : f ≤ s.size) (hn : runL ((byL s).drop f) = n) (hp : f + n = p) (h0 : n ≠ 0) (h1 : p < s.size) (h2 : s[p].toNat = 46) (hn2 : runL ((byL s).drop (p + 1)) = n2) (h3 : n2 ≠ 0) (h4 : p + 1 + n2 = s.size) : CutAt s (s.extract f p) (s.extract (p + 1) s.size) (p + 1 + n2) true := by
  rcases hf with rfl | rfl
  · obtain rfl : n = p := by omega
    exact Cut_F0 s n hs hm hsz hn h0 h1 h2 n2 hn2 h3 h4
  · subst hp; exact Cut_F1 s n hs hm hsz hn h0 h1 h2 n2 hn2 h3 h4

/-- What Parse tells, at last. -/
def ParseIs (s : ByteArray) (v : (Int × Int) × Int × Int) : Prop := ∀ w : World, Calls Tryd.prog 9 #[.string s] w fun e w' => e = .returned (.tuple #[decV v.1.1 v.1.2, .int .i64 v.2.1, .int .i64 v.2.2]) ∧ Ext w w'

theorem okV_if (neg : Bool) (A B : List Nat) (N k : Nat) (hN : valD (A ++ B) = N) (hk : B.length = k) : okV neg A B = if decOk N k then ((decMv neg N k, decSv N k), 0, 0) else ((0, 0), 12, 0) := by
  subst hN hk; rfl

theorem DParse_is (s : ByteArray) (hs : s.size ≤ 9223372036854775807) : ParseIs s (parseV s) := by
  obtain ⟨f, hf⟩ : ∃ f, pFrom s = f := ⟨_, rfl⟩
  have hf01 : f = 0 ∨ f = 1 := by
    rw [← hf]; unfold pFrom; split
    · exact .inr rfl
    · exact .inl rfl
  have hm : minusB s = (f == 1) := by
    rw [← hf]; unfold pFrom
    cases minusB s <;> rfl
  have hsz : f ≤ s.size := by
    rcases hf01 with rfl | rfl
    · omega
    · by_cases h0 : s.size = 0
      · rw [minus_none s h0] at hm; cases hm
      · omega
  unfold parseV
  rw [hf]
  obtain ⟨n, hn⟩ : ∃ n, runL ((byL s).drop f) = n := ⟨_, rfl⟩
  have hnl : f + n ≤ s.size := by
    have := runL_le ((byL s).drop f)
    rw [hn, List.length_drop, byL_length] at this
    omega
  simp only [hn]
  by_cases h0 : n = 0
  · subst h0
    rw [if_pos (by omega)]
    exact fun w => DParse_no s emp emp f (cutA s f hs hf01 hm hsz hn) w
  · rw [if_neg (by omega)]
    obtain ⟨p, hp⟩ : ∃ p, f + n = p := ⟨_, rfl⟩
    rw [hp] at hnl ⊢
    by_cases h1 : p < s.size
    · rw [byL_get s p h1]
      by_cases h2 : s[p].toNat = 46
      · rw [if_pos (by rw [h2])]
        obtain ⟨n2, hn2⟩ : ∃ n2, runL ((byL s).drop (p + 1)) = n2 := ⟨_, rfl⟩
        have hn2l : p + 1 + n2 ≤ s.size := by
          have := runL_le ((byL s).drop (p + 1))
          rw [hn2, List.length_drop, byL_length] at this
          omega
        simp only [hn2]
        by_cases h3 : n2 = 0
        · subst h3
          rw [if_pos (by omega)]
          exact fun w => DParse_no s emp emp (p + 1) (cutD s f n p hs hf01 hm hsz hn hp h0 h1 h2 hn2) w
        · rw [if_neg (by omega)]
          by_cases h4 : p + 1 + n2 < s.size
          · rw [if_pos h4]
            exact fun w => DParse_no s emp emp (p + 1 + n2) (cutE s f n p n2 hs hf01 hm hsz hn hp h0 h1 h2 hn2 h3 h4) w
          · have h5 : p + 1 + n2 = s.size := by omega
            rw [if_neg h4]
            have hA : byL (s.extract f p) = asc (digitsOf (((byL s).drop f).take n)) := by
              rw [byL_extract, show p - f = n from by omega]
              have := asc_run ((byL s).drop f)
              rw [hn] at this
              exact this.symm
            have hall : ((byL s).drop (p + 1)).take n2 = (byL s).drop (p + 1) := List.take_of_length_le (by rw [List.length_drop, byL_length]; omega)
            have hB : byL (s.extract (p + 1) s.size) = asc (digitsOf ((byL s).drop (p + 1))) := by
              rw [byL_extract, show s.size - (p + 1) = n2 from by omega]
              have := asc_run ((byL s).drop (p + 1))
              rw [hn2, hall] at this
              rw [hall]; exact this.symm
            have hBl : (digitsOf ((byL s).drop (p + 1))).length = n2 := by
              have h := congrArg List.length hB
              rw [byL_length, asc_length] at h
              rw [← h]; simp; omega
            have hAB : digitsOf ((byL s).drop f) = digitsOf (((byL s).drop f).take n) ++ digitsOf ((byL s).drop (p + 1)) := by
              have h6 : ((byL s).drop f).drop n = 46 :: (byL s).drop (p + 1) := by
                rw [List.drop_drop, hp, byL_drop s p h1, h2]
              have h7 := congrArg digitsOf (List.take_append_drop n ((byL s).drop f))
              rw [digitsOf_append, h6, digitsOf_point] at h7
              exact h7.symm
            intro w
            have H := DParse_ok s _ _ (p + 1 + n2) _ _ hs (by simp; omega) (by omega) (cutF s f n p n2 hs hf01 hm hsz hn hp h0 h1 h2 hn2 h3 h5) (digitsOf_lt _) (digitsOf_lt _) hA hB w
            rw [okV_if _ _ _ (valD (digitsOf ((byL s).drop f))) (p + 1 + n2 - p - 1) (by rw [← hAB]) (by omega), hm] at H
            exact H
      · rw [if_neg (fun h => h2 (Option.some.inj h)), if_pos h1]
        exact fun w => DParse_no s emp emp p (cutB s f n p hs hf01 hm hsz hn hp h0 h1 h2) w
    · have h5 : p = s.size := by omega
      subst h5
      rw [if_neg (by rw [List.getElem?_eq_none (by rw [byL_length]; exact Nat.le_refl _)]; simp), if_neg h1]
      have hall : ((byL s).drop f).take n = (byL s).drop f := List.take_of_length_le (by rw [List.length_drop, byL_length]; omega)
      have hA : byL (s.extract f s.size) = asc (digitsOf ((byL s).drop f)) := by
        rw [byL_extract, show s.size - f = n from by omega]
        have := asc_run ((byL s).drop f)
        rw [hn, hall] at this
        rw [hall]; exact this.symm
      intro w
      have H := DParse_ok s _ emp s.size _ [] hs (by show (s.extract f s.size).size + 0 ≤ s.size; simp) (by omega) (cutC s f n hs hf01 hm hsz hn hp h0) (digitsOf_lt _) (fun d hd => absurd hd (by simp)) hA rfl w
      rw [okV_if _ _ _ (valD (digitsOf ((byL s).drop f))) 0 (by rw [List.append_nil]) rfl, hm] at H
      exact H
end Go.Proofs.YtiancppdcfahaaaDoor
