/- The law's own check 'known' answers true. -/
import Derived.Test.YtgpenejalpcjmaaUtfG
namespace Go.Proofs.Ytgpenejalpcjmaa
open Go.RowKit

theorem Next_at (s : ByteArray) (i : Int) (r : Nat × Nat × Bool) (h : nextS s i = r) (hs : s.size ≤ 9223372036854775807) (w : World) :
    Calls Try.prog 9 #[.string s, .int .i64 i] w fun e w' => e = .returned (.tuple #[.int .i32 r.1, .int .i64 r.2.1, .bool r.2.2]) ∧ Ext w w' := by
  have := Next_any s i w hs; rwa [h] at this
theorem Encode_at (r : Int) (s : ByteArray) (b : Bool) (h : encS r = s) (hb : isScalar r = b) (w : World) :
    Calls Try.prog 11 #[.int .i32 r] w fun e w' => e = .returned (.tuple #[.string s, .bool b]) ∧ Ext w w' := by
  have := Encode_any r w; rwa [h, hb] at this
theorem Bad_at (s : ByteArray) (r : Int) (h : badL (bs s) = r) (hs : s.size ≤ 9223372036854775807) (w : World) :
    Calls Try.prog 13 #[.string s] w fun e w' => e = .returned (.int .i64 r) ∧ Ext w w' := by
  have := Bad_any s w hs; rwa [h] at this
theorem Count_at (s : ByteArray) (r : Int) (h : countL (bs s) = r) (hs : s.size ≤ 9223372036854775807) (w : World) :
    Calls Try.prog 15 #[.string s] w fun e w' => e = .returned (.int .i64 r) ∧ Ext w w' := by
  have := Count_any s w hs; rwa [h] at this

set_option maxHeartbeats 1000000 in
set_option maxRecDepth 100000 in
theorem known_any (w : World) :
    Calls Try.prog 8 #[] w fun e w' => e = .returned (.bool true) ∧ Ext w w' := by
  have n1 := Next_at ⟨#[97, 226, 130, 172]⟩ 1 (8364, 3, true) (by decide +kernel) (by decide)
  have n2 := Next_at ⟨#[237, 160, 128]⟩ 0 (0, 0, false) (by decide +kernel) (by decide)
  have e1 := Encode_at 128512 ⟨#[240, 159, 152, 128]⟩ true (by decide +kernel) (by decide)
  have e2 := Encode_at 55296 ⟨#[]⟩ false (by decide +kernel) (by decide)
  have b1 := Bad_at ⟨#[226, 40]⟩ 1 (by decide +kernel) (by decide)
  have b2 := Bad_at ⟨#[226, 130]⟩ 2 (by decide +kernel) (by decide)
  have b3 := Bad_at ⟨#[97, 98]⟩ (-1) (by decide +kernel) (by decide)
  have c1 := Count_at ⟨#[97, 195, 169]⟩ 2 (by decide +kernel) (by decide)
  have c2 := Count_at ⟨#[255]⟩ (-1) (by decide +kernel) (by decide)
  go_enter Try.func8, Try.ntmps8
  go_wp2_with fail
  refine (n1 _).mono ?_
  rintro e w1 ⟨rfl, x1⟩
  go_wp2_with fail
  refine (n2 _).mono ?_
  rintro e w2 ⟨rfl, x2⟩
  go_wp2_with fail
  refine (e1 _).mono ?_
  rintro e w3 ⟨rfl, x3⟩
  go_wp2_with fail
  refine (e2 _).mono ?_
  rintro e w4 ⟨rfl, x4⟩
  go_wp2_with fail
  refine (b1 _).mono ?_
  rintro e w5 ⟨rfl, x5⟩
  go_wp2_with fail
  refine (b2 _).mono ?_
  rintro e w6 ⟨rfl, x6⟩
  go_wp2_with fail
  refine (b3 _).mono ?_
  rintro e w7 ⟨rfl, x7⟩
  go_wp2_with fail
  refine (c1 _).mono ?_
  rintro e w8 ⟨rfl, x8⟩
  go_wp2_with fail
  refine (c2 _).mono ?_
  rintro e w9 ⟨rfl, x9⟩
  go_wp2_with fail
  go_ret
  exact ⟨rfl, x1.trans (x2.trans (x3.trans (x4.trans (x5.trans (x6.trans (x7.trans (x8.trans x9)))))))⟩
end Go.Proofs.Ytgpenejalpcjmaa
