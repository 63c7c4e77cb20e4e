import Derived.Test.YtakcadkffmfneaaDoorA2
namespace Go.Proofs.YtakcadkffmfneaaDoor
open Go.RowKit Go.Sort

/-! ### what is not heavy has short lists -/
mutual
def smallT : NodeT → Prop
  | .mk _ _ _ _ _ _ _ _ args => args.length ≤ 1099511627000 ∧ smallL args
def smallL : List NodeT → Prop
  | [] => True
  | t :: r => smallT t ∧ smallL r
end
mutual
theorem weightT_small : ∀ (t : NodeT) (m : Int), weightT t m ≤ m → 0 ≤ m → m ≤ 1048576 → smallT t
  | .mk _ _ _ _ _ _ _ _ args, m, h, h0, h1 => by
    simp only [weightT] at h
    obtain ⟨q1, q2⟩ := weightL_small args 1 m h (by omega) h1
    simp only [smallT]
    exact ⟨by omega, q1⟩
theorem weightL_small : ∀ (l : List NodeT) (all m : Int), weightL l all m ≤ m → 1 ≤ all → m ≤ 1048576 → smallL l ∧ all + l.length ≤ m
  | [], all, m, h, h0, h1 => by simp only [weightL] at h; simp only [smallL]; simp; omega
  | t :: r, all, m, h, h0, h1 => by
    simp only [weightL] at h
    by_cases hc : all ≤ m
    · rw [if_pos hc] at h
      have hw := weightT_le t (m - all) (by omega)
      obtain ⟨q1, q2⟩ := weightL_small r _ m h (by omega) h1
      have q3 := weightT_small t (m - all) (by omega) (by omega) (by omega)
      simp only [smallL, List.length_cons]
      exact ⟨⟨q3, q1⟩, by omega⟩
    · rw [if_neg hc] at h; omega
end
theorem smallL_at : ∀ {l : List NodeT} {k : Nat} {t : NodeT}, smallL l → l[k]? = some t → smallT t
  | _ :: _, 0, _, h, e => by simp only [smallL] at h; cases e; exact h.1
  | _ :: _, k + 1, _, h, e => by simp only [smallL] at h; exact smallL_at (k := k) h.2 e
theorem smallT_args {t : NodeT} (h : smallT t) : t.args.length ≤ 1099511627000 ∧ smallL t.args := by cases t; simp only [smallT] at h; exact h
end Go.Proofs.YtakcadkffmfneaaDoor
