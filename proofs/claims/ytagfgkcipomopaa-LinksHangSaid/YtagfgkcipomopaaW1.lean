import Derived.Test.YtagfgkcipomopaaProg
import Derived.WalkKit
import Derived.WalkSpells
import Derived.WalkLawsBesides
import Derived.BigQuiet
import Derived.Deep.QuietTactic
import Derived.Lib.Hide
import Derived.StillTailTactics
import Derived.Deep.RegionWith
import Derived.Test.YtagfgkcipomopaaG1
namespace Go.Proofs.Ytagfgkcipomopaa
open Go.RowKit Go.Sort

theorem new2a (w : World) (a b : Value) (T : TypeId) {k : Nat} (hk : k = w.heap.size) : (w.alloc (.cells #[a, b] T)).drew.cell? ⟨k, 0, none⟩ = some a := by
  subst hk; simp
theorem new2b (w : World) (a b : Value) (T : TypeId) {k : Nat} (hk : k = w.heap.size) : (w.alloc (.cells #[a, b] T)).drew.cell? ⟨k, 1, none⟩ = some b := by
  subst hk; simp
/-! ### addr -/
theorem isNaN_any (a : Int) (w : World) :
    Calls Try.prog 80 #[.int .i64 a] w fun e w' => e = .returned (.bool false) ∧ w = w' := by
  go_enter Try.func80, Try.ntmps80
  go_wp2
  go_ret
  exact ⟨rfl, rfl⟩

def cmpI (a b : Int) : Int := if a < b then -1 else if b < a then 1 else 0

set_option maxHeartbeats 400000 in
theorem compare_any (a b : Int) (w : World) :
    Calls Try.prog 66 #[.int .i64 a, .int .i64 b] w fun e w' => e = .returned (.int .i64 (cmpI a b)) ∧ w = w' := by
  by_cases h1 : a < b
  · have hc : cmpI a b = -1 := by simp [cmpI, h1]
    rw [hc]
    go_enter Try.func66, Try.ntmps66
    go_wp2
    go_ret
    exact ⟨rfl, rfl⟩
  · by_cases h2 : b < a
    · have hc : cmpI a b = 1 := by simp [cmpI, h1, h2]
      rw [hc]
      go_enter Try.func66, Try.ntmps66
      go_wp2
      go_ret
      exact ⟨rfl, rfl⟩
    · have hc : cmpI a b = 0 := by simp [cmpI, h1, h2]
      rw [hc]
      go_enter Try.func66, Try.ntmps66
      go_wp2
      go_ret
      exact ⟨rfl, rfl⟩

def validB (c r : Int) : Bool := decide (1 ≤ c) && decide (c ≤ 256) && decide (1 ≤ r) && decide (r ≤ 4096)

set_option maxHeartbeats 400000 in
theorem valid_any (c r : Int) (w : World) :
    Calls Try.prog 35 #[.agg #[.int .i64 c, .int .i64 r]] w fun e w' => e = .returned (.bool (validB c r)) ∧ w' = w.alloc (.cells #[.int .i64 c, .int .i64 r] 34) := by
  unfold validB
  go_enter Try.func35, Try.ntmps35
  go_wp2
  all_goals (go_ret; refine ⟨?_, rfl⟩; congr 2; simp [*])
  all_goals omega

def validA (a b c d : Int) : Bool := validB a b && validB c d && decide (a ≤ c) && decide (b ≤ d)

set_option maxHeartbeats 400000 in
theorem validArea_any (a b c d : Int) (w : World) :
    Calls Try.prog 43 #[.agg #[.int .i64 a, .int .i64 b, .int .i64 c, .int .i64 d]] w fun e w' => e = .returned (.bool (validA a b c d)) ∧ Gr w w' := by
  unfold validA
  cases h1 : validB a b <;> cases h2 : validB c d
  all_goals
    go_enter Try.func43, Try.ntmps43
    go_wp2_with (go_at_call 35; refine (valid_any _ _ _).mono ?_; rintro e w' ⟨rfl, rfl⟩)
    all_goals (go_ret; refine ⟨by congr 2; try (simp [*]; try omega), by repeat (first | exact Gr.refl _ | refine Gr.alloc ?_ _)⟩)

def inB (a b c d x y : Int) : Bool := validA a b c d && decide (a ≤ x) && decide (x ≤ c) && decide (b ≤ y) && decide (y ≤ d)
set_option maxHeartbeats 400000 in
theorem in_any (a b c d x y : Int) (w : World) :
    Calls Try.prog 67 #[.agg #[.int .i64 a, .int .i64 b, .int .i64 c, .int .i64 d], .agg #[.int .i64 x, .int .i64 y]] w fun e w' => e = .returned (.bool (inB a b c d x y)) ∧ Gr w w' := by
  unfold inB
  cases h1 : validA a b c d
  all_goals
    go_enter Try.func67, Try.ntmps67
    go_wp2_with (go_at_call 43; refine (validArea_any _ _ _ _ _).mono ?_; rintro e w' ⟨rfl, hg⟩; obtain ⟨hgc, hgf⟩ := hg.xt.cells; have hgz := hg.xt.sz)
    all_goals (go_ret; refine ⟨by congr 2; try (simp [*]; try omega), Gr.trans (((Gr.refl _).alloc _).alloc _) (by assumption)⟩)

def orderI (a b x y : Int) : Int := if cmpI b y = 0 then cmpI a x else cmpI b y
theorem or2_0 (b : Int) (k : Nat) (w : World) (h0 : w.cell? ⟨k, 0, none⟩ = some (.int .i64 0)) (h1 : w.cell? ⟨k, 1, none⟩ = some (.int .i64 b)) :
    Calls Try.prog 65 #[.slice (some ⟨k, 0, none⟩) 2 2] w fun e w' => e = .returned (.int .i64 b) ∧ w = w' := by
  by_cases hb : b = 0
  · subst hb
    go_enter Try.func65, Try.ntmps65
    go_wp2
    refine wp_loop_rounds 3 ?_
    rw [rounds_succ]
    go_wp2
    rw [rounds_succ]
    go_wp2
    rw [rounds_succ]
    go_wp2
    go_ret
    exact ⟨rfl, rfl⟩
  · have hb' : (b == 0) = false := by simpa using hb
    have hb2 : (b != 0) = true := by simpa using hb
    go_enter Try.func65, Try.ntmps65
    go_wp2
    refine wp_loop_rounds 3 ?_
    rw [rounds_succ]
    go_wp2
    rw [rounds_succ]
    go_wp2
    go_ret
    exact ⟨rfl, rfl⟩
theorem or2_1 (a b : Int) (k : Nat) (w : World) (h0 : w.cell? ⟨k, 0, none⟩ = some (.int .i64 a)) (_ : w.cell? ⟨k, 1, none⟩ = some (.int .i64 b)) (ha : a ≠ 0) :
    Calls Try.prog 65 #[.slice (some ⟨k, 0, none⟩) 2 2] w fun e w' => e = .returned (.int .i64 a) ∧ w = w' := by
  have hb2 : (a != 0) = true := by simpa using ha
  go_enter Try.func65, Try.ntmps65
  go_wp2
  refine wp_loop_rounds 1 ?_
  rw [rounds_succ]
  go_wp2
  go_ret
  exact ⟨rfl, rfl⟩
def orI (a b : Int) : Int := if a = 0 then b else a
theorem or2_any (a b : Int) (k : Nat) (w : World) (h0 : w.cell? ⟨k, 0, none⟩ = some (.int .i64 a)) (h1 : w.cell? ⟨k, 1, none⟩ = some (.int .i64 b)) :
    Calls Try.prog 65 #[.slice (some ⟨k, 0, none⟩) 2 2] w fun e w' => e = .returned (.int .i64 (orI a b)) ∧ w = w' := by
  by_cases ha : a = 0
  · subst ha; exact or2_0 b k w h0 h1
  · rw [show orI a b = a from if_neg ha]; exact or2_1 a b k w h0 h1 ha

set_option maxHeartbeats 400000 in
set_option maxRecDepth 100000 in
theorem order_any (a b x y : Int) (w : World) :
    Calls Try.prog 38 #[.agg #[.int .i64 a, .int .i64 b], .agg #[.int .i64 x, .int .i64 y]] w fun e w' => e = .returned (.int .i64 (orI (cmpI b y) (cmpI a x))) ∧ Gr w w' := by
  go_enter Try.func38, Try.ntmps38
  go_wp2_with fail
  refine wp_region_still_tail 10 (by kernel_rfl) (by kernel_rfl) ?_
  change wpStill _ _ (World.drew _) _ _ _
  simp only [List.take_succ_cons, List.take_zero, List.drop_succ_cons, List.drop_zero]
  refine wpStill_step (fun K hK => ?_)
  go_simp
  refine hK _ ?_
  clear hK K
  still_step
  still_step
  still_step
  still_call ((compare_any _ _ _).mono fun _ _ ⟨h, hw⟩ => ⟨h, hw.symm⟩)
  still_step
  still_step
  still_step
  still_step
  still_call ((compare_any _ _ _).mono fun _ _ ⟨h, hw⟩ => ⟨h, hw.symm⟩)
  refine wpStill_nil ?_
  change wpList _ _ _ _ _ (World.drew _)
  go_wp2_with (go_at_call 65; refine (or2_any (cmpI b y) (cmpI a x) (w.heap.size + 1 + 1) _ (new2a _ _ _ _ (by simp)) (new2b _ _ _ _ (by simp))).mono ?_; rintro e w' ⟨rfl, rfl⟩)
  go_ret
  exact ⟨rfl, (((Gr.refl _).alloc _).alloc _).drew.alloc _⟩

set_option maxHeartbeats 400000 in
theorem areaOrder_any (a b c d x y z t : Int) (w : World) :
    Calls Try.prog 46 #[.agg #[.int .i64 a, .int .i64 b, .int .i64 c, .int .i64 d], .agg #[.int .i64 x, .int .i64 y, .int .i64 z, .int .i64 t]] w fun e w' => e = .returned (.int .i64 (orI (orI (cmpI b y) (cmpI a x)) (orI (cmpI d t) (cmpI c z)))) ∧ Gr w w' := by
  generalize hp : orI (cmpI b y) (cmpI a x) = p
  generalize hq : orI (cmpI d t) (cmpI c z) = q
  have Hp := Lib.hid hp
  have Hq := Lib.hid hq
  clear hp hq
  by_cases hp0 : p = 0
  · subst hp0
    rw [show orI 0 q = q from if_pos rfl]
    go_enter Try.func46, Try.ntmps46
    go_wp2_with fail
    refine (order_any _ _ _ _ _).mono ?_
    rintro e w1 ⟨rfl, hg⟩
    rw [Hp.out]
    obtain ⟨hc, hf⟩ := hg.xt.cells
    have hz := hg.xt.sz
    go_wp2_with fail
    refine (order_any _ _ _ _ _).mono ?_
    rintro e w2 ⟨rfl, hg2⟩
    rw [Hq.out]
    go_wp2_with fail
    go_ret
    exact ⟨rfl, Gr.trans (Gr.trans (((Gr.refl _).alloc _).alloc _) hg) hg2⟩
  · have hb : (p != 0) = true := by simpa using hp0
    rw [show orI p q = p from if_neg hp0]
    go_enter Try.func46, Try.ntmps46
    go_wp2_with fail
    refine (order_any _ _ _ _ _).mono ?_
    rintro e w1 ⟨rfl, hg⟩
    rw [Hp.out]
    go_wp2_with fail
    go_ret
    exact ⟨rfl, Gr.trans (((Gr.refl _).alloc _).alloc _) hg⟩
end Go.Proofs.Ytagfgkcipomopaa
