import Derived.Test.YtakcadkffmfneaaDoorD4
import Derived.Test.YtakcadkffmfneaaDoorW20
namespace Go.Proofs.YtakcadkffmfneaaDoor
open Go.RowKit Go.Sort

theorem small_of_heavy {c : ContT} (h : heavyB c = false) : smallT c.t := by
  unfold heavyB at h
  have := of_decide_eq_false h
  exact weightT_small c.t 1048576 (by omega) (by omega) (by omega)
end Go.Proofs.YtakcadkffmfneaaDoor
