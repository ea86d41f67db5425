/- Whether a family may be, by what of it is not where it lies; what family.Sort tells, taken apart. -/
import Derived.Test.YtjjnmefihdjglaaFamU
namespace Go.Proofs.Ytjjnmefihdjglaa
open Go.RowKit

def goodY (k : Int) (y : PtY) : Bool := goodPt k y.1.l y.1.r y.1.f y.1.M y.1.S y.2.1 y.2.2 y.1.t y.1.T
def goodFamY (nm : ByteArray) (k : Int) (un he : ByteArray) (l : List PtY) : Bool :=
  (nameB nm && (!(decide (k < 0 ∨ 4 < k)) && (valueB un && valueB he))) && (l.all (goodY k) && risesK (l.map (fun y => y.1)))
theorem goodFam_y (nm : ByteArray) (k : Int) (un he : ByteArray) (l : List PtD) : goodFam nm k un he l = goodFamY nm k un he (l.map PtD.y) := by
  unfold goodFam goodFamY
  rw [List.all_map, List.map_map]
  rfl

theorem SortTold.good {nm : ByteArray} {k : Int} {un he : ByteArray} {l : List PtD} {base : Nat} {e : Ending} {w' : World} (h : SortTold nm k un he l base e w') (M : List PtY) (hM : M.Perm (l.map PtD.y)) (hr : Ris cmpY M) :
    ∃ a c L, L.map PtD.y = M ∧ e = .returned (.tuple #[.agg #[.string nm, .int .i64 k, .string un, .string he, .slice a L.length c], .bool true]) ∧ PtsA a L w' ∧ OwnP base (.slice a L.length c) L w' := by
  rcases h with ⟨v, L, h1, h2, h3, h4⟩ | ⟨h1, _⟩
  · obtain ⟨a, c, rfl, h5⟩ := h4.pts
    exact ⟨a, c, L, Ris.unique cmpY_cmp h2 hr (h1.trans hM.symm), h3, h5, h4⟩
  · exact absurd hr (h1 M hM)
theorem SortTold.bad {nm : ByteArray} {k : Int} {un he : ByteArray} {l : List PtD} {base : Nat} {e : Ending} {w' : World} (h : SortTold nm k un he l base e w') (hr : ∀ M : List PtY, M.Perm (l.map PtD.y) → ¬ Ris cmpY M) :
    e = .returned (.tuple #[.agg #[.string ⟨#[]⟩, .int .i64 0, .string ⟨#[]⟩, .string ⟨#[]⟩, .slice none 0 0], .bool false]) := by
  rcases h with ⟨v, L, h1, h2, h3, h4⟩ | ⟨_, h⟩
  · exact absurd h2 (hr _ h1)
  · exact h
end Go.Proofs.Ytjjnmefihdjglaa
