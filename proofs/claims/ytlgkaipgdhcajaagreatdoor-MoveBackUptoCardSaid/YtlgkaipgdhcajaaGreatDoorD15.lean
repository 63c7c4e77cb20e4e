/- Plain grids; what a copy has is valid as what it was copied from. -/
import Derived.Test.YtlgkaipgdhcajaaGreatDoorW45
import Derived.Test.YtlgkaipgdhcajaaGreatDoorA9
namespace Go.Proofs.YtlgkaipgdhcajaaGreatDoor
open Go.RowKit Go.Sort

theorem placeX_one (x : Nat) : placeX (oneX x) = placeX x := by
  rcases one_cases x with h | ⟨h, h2⟩
  · rw [h]
  · rw [h]; unfold placeX ordX; rw [if_pos h2, if_pos nan_nan]
theorem keyV_copy (v : ValT) : keyV { v with x := oneX v.x } = keyV v := by unfold keyV; simp only [placeX_one]
theorem keyC_copy (c : ContT) : keyC (copyC c) = keyC c := by unfold keyC copyC; simp only [keyV_copy, copyT_idem]
theorem sameCB_refl (c : ContT) : sameCB c c = true := (sameCB_iff _ _).2 rfl
end Go.Proofs.YtlgkaipgdhcajaaGreatDoor
