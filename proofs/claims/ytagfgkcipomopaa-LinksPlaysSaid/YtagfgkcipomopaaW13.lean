import Derived.Test.YtagfgkcipomopaaW12
import Derived.BigQuiet
namespace Go.Proofs.Ytagfgkcipomopaa
open Go.RowKit Go.Sort

/-! ### Order -/
set_option maxRecDepth 20000 in
theorem order12_any (pb bm : Nat) (F : Nat → Prop) (M : Mp) (v : Value) (l : List Ad) (w : World) (h : Lk w pb bm F M) (hF : ∀ b, F b → b < w.heap.size) (hv : SlOf w adC 2 v l) (hl : l.length ≤ 8796093022208) :
    Calls Try.prog 12 #[.pointer (some ⟨pb, 0, none⟩), v] w (ReadyR w (readyS M l [])) := by
  have hc := ready_any pb bm F M v (.slice none 0 0) l [] w h hF hv (SlOf.nil _ _ _ _ _ (by omega)) hl
  go_enter Try.func12, Try.ntmps12
  go_wp2_with (go_at_call 11; refine hc.mono ?_; rintro e w1 ⟨v1, rfl, hown, hx⟩)
  go_ret2
  exact ⟨_, rfl, hown, hx⟩
/-! ### the plain law of awake -/
theorem awake_set : setErr [] (1, 1) [((2, 1), (2, 1))] = 0 := by
  unfold setErr
  rw [if_neg (by decide), if_neg (by decide), if_neg (by decide), if_neg (by decide)]
theorem normL_one (x : Ar) : normL [x] = [x] := by
  unfold normL sortL
  rw [List.mergeSort_singleton]
  exact compL_short (by simp)
theorem awake_to : setTo [] (1, 1) [((2, 1), (2, 1))] = [((1, 1), [((2, 1), (2, 1))])] := by
  unfold setTo
  rw [if_pos awake_set, normL_one]; rfl
theorem awake_users : (([((1, 1), [((2, 1), (2, 1))])] : Mp).map (·.1)).filter (fun a => onM [((1, 1), [((2, 1), (2, 1))])] a (2, 1)) = [(1, 1)] := by decide
theorem awake_setA : setA [(1, 1), (2, 1)] = [(1, 1), (2, 1)] := by
  unfold setA
  rw [sortL_of (l := [(1, 1), (2, 1)]) (by decide) (List.Perm.refl _)]
  decide
theorem awake_order : readyS [((1, 1), [((2, 1), (2, 1))])] [(1, 1), (2, 1)] [] = (0, [(2, 1), (1, 1)]) := by
  refine readyS_ok (by decide) ?_
  rw [awake_setA]
  decide
end Go.Proofs.Ytagfgkcipomopaa
