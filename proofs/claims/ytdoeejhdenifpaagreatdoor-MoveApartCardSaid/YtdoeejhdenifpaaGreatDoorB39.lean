import Derived.Test.YtdoeejhdenifpaaGreatDoorB38
import Derived.Test.YtdoeejhdenifpaaGreatDoorB31
namespace Go.Proofs.YtdoeejhdenifpaaGreatDoor
section
open Go.RowKit Go.Sort
theorem j8F (c : ContT) : (jNS c).t.args = jEz c.t.args /\ (jNS c).t.args.length = c.t.args.length := by
 obtain ⟨k, v, t⟩ := c;obtain ⟨kk, op, x, s, bb, f, r, q, args⟩ := t;constructor
 . rfl
 . show (jEz args).length = args.length
   rw [j3y]; simp
theorem ybd (n : Nat) (c : ContT) (a : Option Addr) (cap : Nat) (w : World) (hsm : yQE c.t) (hin : ArgsIn w n (.slice a c.t.args.length cap) c.t.args) :
    Calls Tryz.prog 67 #[jEC c a c.t.args.length cap] w fun e w' => ∃ a' k', e = .returned (jEC (jNS c) a' (jNS c).t.args.length k') /\ OwnIn (fun b => w.heap.size <= b) w' n (.slice a' (jNS c).t.args.length k') (jNS c).t.args /\ Xt w w' := by
 refine (jyb n c a cap w hsm hin).mono ?_;rintro e w' ⟨a', k', rfl, hA, hx⟩;rw [(j8F c).2];refine ⟨a', k', rfl, ?_, hx⟩;rw [(j8F c).1]; exact hA
end
end Go.Proofs.YtdoeejhdenifpaaGreatDoor
