import Derived.Test.YtlgkaipgdhcajaaGreatDoorA13
import Derived.Test.YtlgkaipgdhcajaaGreatDoorW7
import Derived.Lib.Bytealg
import Derived.Lib.Hide
/- move, plain: formulas and contents that go a road stay valid; what a grid that goes a road has. -/
namespace Go.Proofs.YtlgkaipgdhcajaaGreatDoor
open Go.RowKit Go.Sort

theorem refB_self (r : RefT) : refB r r = true := by unfold refB; simp
theorem made_lost : madeB lostT = true := by kernel_rfl
theorem fault_lost (ins : Bool) : faultT lostT ins = 0 := by cases ins <;> kernel_rfl
theorem made_ref {o : Int} {x : Nat} {s : ByteArray} {b : Bool} {f : Int} {r q r' : RefT} {l : List NodeT} (h : madeB (.mk 5 o x s b f r q l) = true) : l = [] ∧ madeB (.mk 5 o x s b f r' q l) = true := by
  simp only [madeB, Int.reduceEq, if_false, if_true] at *
  simp only [Bool.and_eq_true, alikeB, NodeT.kind, NodeT.op, NodeT.x, NodeT.s, NodeT.b, NodeT.f, NodeT.ref, NodeT.to] at *
  refine ⟨List.length_eq_zero_iff.1 (by have := h.1.2; simp at this; omega), ⟨h.1, ?_⟩⟩
  exact ⟨⟨h.2.1.1, refB_self _⟩, h.2.2⟩
theorem made_area {o : Int} {x : Nat} {s : ByteArray} {b : Bool} {f : Int} {r q r' q' : RefT} {l : List NodeT} (h : madeB (.mk 6 o x s b f r q l) = true) : l = [] ∧ madeB (.mk 6 o x s b f r' q' l) = true := by
  simp only [madeB, Int.reduceEq, if_false, if_true] at *
  simp only [Bool.and_eq_true, alikeB, NodeT.kind, NodeT.op, NodeT.x, NodeT.s, NodeT.b, NodeT.f, NodeT.ref, NodeT.to] at *
  refine ⟨List.length_eq_zero_iff.1 (by have := h.1.2; simp at this; omega), ⟨h.1, ?_⟩⟩
  exact ⟨⟨h.2.1.1, refB_self _⟩, refB_self _⟩
theorem made_args {k o : Int} {x : Nat} {s : ByteArray} {b : Bool} {f : Int} {r q : RefT} {l l' : List NodeT} (hl : l'.length = l.length) (h : madeB (.mk k o x s b f r q l) = true) : madeB (.mk k o x s b f r q l') = true := by
  unfold madeB at *
  simp only [alikeB, NodeT.kind, NodeT.op, NodeT.x, NodeT.s, NodeT.b, NodeT.f, NodeT.ref, NodeT.to, hl] at *
  exact h
mutual
theorem turnT_fault {cG : Ad → Ad × Bool} {aG : ArT → ArT × Bool} (H : RoadV cG aG) : ∀ (t : NodeT) (ins : Bool), faultT t ins = 0 → faultT (turnT cG aG t) ins = 0 ∧ measT (turnT cG aG t) = measT t
  | .mk k o x s b f r q l, ins, h => by
    rw [faultT] at h
    by_cases hm : madeB (.mk k o x s b f r q l) = true
    · rw [if_pos hm] at h
      rw [turnT, turnH]
      by_cases h5 : k = 5
      · subst h5
        rw [if_pos (by rfl)] at h
        obtain ⟨rfl, hm'⟩ := made_ref (r' := ⟨(cG r.a).1, r.cf, r.rf⟩) hm
        rw [if_pos rfl, turnL]
        by_cases ho : (cG r.a).2 = true
        · rw [if_pos ho]
          have hv : validB r.a.1 r.a.2 = true := by
            by_cases hv : validB r.a.1 r.a.2 = true
            · exact hv
            · rw [if_neg hv] at h; omega
          refine ⟨?_, rfl⟩
          rw [faultT, if_pos hm', if_pos (by rfl), if_pos (H.cell _ hv ho), faultL]
        · rw [if_neg ho]
          exact ⟨fault_lost ins, rfl⟩
      · rw [if_neg (by simpa using h5)] at h
        rw [if_neg h5]
        by_cases h6 : k = 6
        · subst h6
          rw [if_pos (by rfl)] at h
          obtain ⟨rfl, hm'⟩ := made_area (r' := ⟨((aG (arOf r q)).1.a, (aG (arOf r q)).1.b), r.cf, r.rf⟩) (q' := ⟨((aG (arOf r q)).1.c, (aG (arOf r q)).1.d), q.cf, q.rf⟩) hm
          rw [if_pos rfl, turnL]
          by_cases ho : (aG (arOf r q)).2 = true
          · rw [if_pos ho]
            have hv : (validB r.a.1 r.a.2 && validB q.a.1 q.a.2 && decide (r.a.1 ≤ q.a.1) && decide (r.a.2 ≤ q.a.2)) = true := by
              by_cases hv : (validB r.a.1 r.a.2 && validB q.a.1 q.a.2 && decide (r.a.1 ≤ q.a.1) && decide (r.a.2 ≤ q.a.2)) = true
              · exact hv
              · rw [if_neg hv] at h; omega
            rw [if_pos hv] at h
            refine ⟨?_, rfl⟩
            have hv' := H.area (arOf r q) hv ho
            rw [faultT, if_pos hm', if_neg (by decide), if_pos (by rfl), if_pos (show (validB _ _ && validB _ _ && decide _ && decide _) = true from hv')]
            cases ins
            · exact h
            · rfl
          · rw [if_neg ho]
            exact ⟨fault_lost ins, rfl⟩
        · rw [if_neg (by simpa using h6)] at h
          rw [if_neg h6]
          have hlen : (turnL cG aG l).length = l.length := turnL_len cG aG l
          have hm' := made_args (l' := turnL cG aG l) hlen hm
          have hL : faultL l (k == 9) = 0 := by
            split at h
            · split at h
              · split at h
                · omega
                · split at h
                  · omega
                  · exact h
              · omega
            · exact h
          obtain ⟨q1, q2⟩ := turnL_fault H l (k == 9) hL
          constructor
          · rw [faultT, if_pos hm', if_neg (by simpa using h5), if_neg (by simpa using h6), hlen, q1]
            rw [hL] at h
            exact h
          · rw [measT, measT, q2]
    · rw [if_neg hm] at h; omega
theorem turnL_fault {cG : Ad → Ad × Bool} {aG : ArT → ArT × Bool} (H : RoadV cG aG) : ∀ (l : List NodeT) (c : Bool), faultL l c = 0 → faultL (turnL cG aG l) c = 0 ∧ ∀ n d, measL (turnL cG aG l) n d = measL l n d
  | [], _, _ => ⟨by rw [turnL, faultL], fun n d => by rw [turnL]⟩
  | t :: l, c, h => by
    rw [faultL] at h
    split at h
    · rename_i e
      obtain ⟨q1, q2⟩ := turnT_fault H t c e
      obtain ⟨q3, q4⟩ := turnL_fault H l c h
      constructor
      · rw [turnL, faultL, if_pos q1]; exact q3
      · intro n d
        rw [turnL, measL, measL, q2]; exact q4 _ _
    · rename_i e; exact absurd h e
end
theorem turn_check {cG : Ad → Ad × Bool} {aG : ArT → ArT × Bool} (H : RoadV cG aG) {t : NodeT} (h : checkT t = 0) : checkT (turnT cG aG t) = 0 := by
  obtain ⟨q1, q2⟩ := turnT_fault H t false (checkT_zero h)
  unfold checkT at *
  rw [q2, q1]
  split at h
  · omega
  · rename_i e1
    rw [if_neg e1]
    split at h
    · omega
    · rename_i e2
      rw [if_neg e2]
theorem contG_valid {cG : Ad → Ad × Bool} {aG : ArT → ArT × Bool} (H : RoadV cG aG) {c : ContT} (h : gvalidB c = true) : gvalidB (contG cG aG (copyC c)) = true := by
  have h2 : gvalidB (copyC c) = true := (gvalidB_copy c).trans h
  unfold contG
  split
  · rename_i hk
    unfold gvalidB at h2 ⊢
    simp only [hk, Int.reduceBEq, Bool.false_eq_true, if_false, if_true, Bool.and_eq_true] at h2 ⊢
    refine ⟨h2.1, ?_⟩
    have h3 : checkT (copyC c).t = 0 := by simpa using h2.2
    have h4 : checkT (copyT (copyC c).t) = 0 := by
      have : copyT (copyC c).t = (copyC c).t := copyT_idem c.t
      rw [this]; exact h3
    simpa using turn_check H h4
  · exact h2
theorem contG_kind (cG : Ad → Ad × Bool) (aG : ArT → ArT × Bool) (c : ContT) : (contG cG aG c).kind = c.kind := by unfold contG; split <;> rfl
theorem contG_copy (cG : Ad → Ad × Bool) (aG : ArT → ArT × Bool) (c : ContT) : copyC (contG cG aG (copyC c)) = contG cG aG (copyC c) := by
  unfold contG
  split
  · show ContT.mk _ _ _ = ContT.mk _ _ _
    have e1 : copyT (turnT cG aG (copyT (copyC c).t)) = turnT cG aG (copyT (copyC c).t) := by
      rw [← turn_copy, copyT_idem]
    have e2 : ({ (copyC c).v with x := oneX (copyC c).v.x } : ValT) = (copyC c).v := by
      have := copyC_idem c
      exact congrArg ContT.v this
    simp only [e1, e2]
  · exact copyC_idem c
/-! ### a grid -/
def goP (cG : Ad → Ad × Bool) (aG : ArT → ArT × Bool) (l : PG) : PG := (l.filter fun x => (cG x.1).2).map fun x => ((cG x.1).1, contG cG aG (copyC x.2))
def MonoC (cG : Ad → Ad × Bool) : Prop := ∀ a b : Ad, validB a.1 a.2 = true → validB b.1 b.2 = true → (cG a).2 = true → (cG b).2 = true → adLt a b = true → adLt (cG a).1 (cG b).1 = true
theorem setM_last {α : Type} {a : Ad} {v : α} : ∀ {M : List (Ad × α)}, (∀ x ∈ M, adLt x.1 a = true) → setM a v M = M ++ [(a, v)]
  | [], _ => rfl
  | x :: r, h => by
    have h1 := h x List.mem_cons_self
    have hne : ¬ x.1 = a := fun e => by rw [e, adLt_irrefl] at h1; cases h1
    have hnl : ¬ adLt a x.1 = true := fun e => by
      have := swo_ad.trans _ _ _ h1 e
      rw [adLt_irrefl] at this; cases this
    rw [setM, if_neg hne, if_neg hnl, setM_last (fun y hy => h y (List.mem_cons_of_mem _ hy))]
    rfl
theorem lkM_of_mem {α : Type} {a : Ad} {v : α} : ∀ {M : List (Ad × α)}, SortedM M → (a, v) ∈ M → lkM a M = some v
  | x :: r, hs, h => by
    have hs' := List.pairwise_cons.1 hs
    rw [lkM]
    rcases List.mem_cons.1 h with e | h
    · rw [← e, if_pos rfl]
    · have h1 := hs'.1 _ h
      have hne : ¬ x.1 = a := fun e => by rw [e, adLt_irrefl] at h1; cases h1
      rw [if_neg hne]
      exact lkM_of_mem hs'.2 h
theorem goP_snoc (cG : Ad → Ad × Bool) (aG : ArT → ArT × Bool) (l : PG) (x : Ad × ContT) : goP cG aG (l ++ [x]) = if (cG x.1).2 = true then goP cG aG l ++ [((cG x.1).1, contG cG aG (copyC x.2))] else goP cG aG l := by
  unfold goP
  rw [List.filter_append]
  split <;> simp_all
theorem goAll_eq {cG : Ad → Ad × Bool} {aG : ArT → ArT × Bool} (H : RoadV cG aG) (hm : MonoC cG) {l : PG} (h : GOk l) : goAll cG aG l = goP cG aG l := by
  obtain ⟨h1, h2, h3⟩ := h
  revert h1 h2 h3
  refine snoc_ind (P := fun l => SortedM l → l.length ≤ 4096 → (∀ x ∈ l, validB x.1.1 x.1.2 = true ∧ gvalidB x.2 = true ∧ (x.2.kind == 0) = false ∧ copyC x.2 = x.2 ∧ x.2.ok) → goAll cG aG l = goP cG aG l) ?_ ?_ l
  · intro _ _ _; rfl
  · intro l x ih hs hl he
    have hs' := List.pairwise_append.1 hs
    rw [goAll_snoc, ih hs'.1 (by simp at hl; omega) (fun y hy => he y (List.mem_append_left _ hy)), goP_snoc]
    obtain ⟨v1, v2, v3, v4, v5⟩ := he x (by simp)
    unfold goStep
    by_cases ho : (cG x.1).2 = true
    · rw [if_pos ho, if_pos ho]
      have hlt : ∀ y ∈ goP cG aG l, adLt y.1 (cG x.1).1 = true := fun y hy => by
        obtain ⟨z, hz, rfl⟩ := List.mem_map.1 hy
        obtain ⟨hz1, hz2⟩ := List.mem_filter.1 hz
        exact hm _ _ (he z (List.mem_append_left _ hz1)).1 v1 hz2 ho (hs'.2.2 z hz1 x (by simp))
      have hlen : (goP cG aG l).length < 4096 := by
        have : (goP cG aG l).length ≤ l.length := by unfold goP; rw [List.length_map]; exact List.length_filter_le ..
        simp at hl; omega
      have hno : lkM (cG x.1).1 (goP cG aG l) = none := lkM_none.2 fun y hy e => by
        have := hlt y hy
        rw [e, adLt_irrefl] at this; cases this
      have hk : ((contG cG aG (copyC x.2)).kind == 0) = false := by rw [contG_kind]; exact v3
      have := put_new (x := ((cG x.1).1, contG cG aG (copyC x.2))) hno hlen ⟨H.cell _ v1 ho, contG_valid H v2, hk, contG_copy cG aG x.2, contG_ok (okC_copy v5)⟩
      rw [this.2, setM_last hlt]
    · rw [if_neg ho, if_neg ho]
theorem goP_ok {cG : Ad → Ad × Bool} {aG : ArT → ArT × Bool} (H : RoadV cG aG) (hm : MonoC cG) {l : PG} (h : GOk l) : GOk (goP cG aG l) := by
  refine ⟨?_, ?_, ?_⟩
  · unfold goP SortedM
    rw [List.pairwise_map, List.pairwise_filter]
    refine h.sorted.imp_of_mem fun {a b} ha hb hl oa ob => hm _ _ (h.each a ha).1 (h.each b hb).1 oa ob hl
  · have : (goP cG aG l).length ≤ l.length := by unfold goP; rw [List.length_map]; exact List.length_filter_le ..
    have := h.many
    omega
  · intro y hy
    obtain ⟨z, hz, rfl⟩ := List.mem_map.1 hy
    obtain ⟨hz1, hz2⟩ := List.mem_filter.1 hz
    obtain ⟨v1, v2, v3, v4, v5⟩ := h.each z hz1
    exact ⟨H.cell _ v1 hz2, contG_valid H v2, by rw [contG_kind]; exact v3, contG_copy cG aG z.2, contG_ok (okC_copy v5)⟩
theorem goP_get {cG : Ad → Ad × Bool} {aG : ArT → ArT × Bool} (H : RoadV cG aG) (hm : MonoC cG) {l : PG} (h : GOk l) {x : Ad × ContT} (hx : x ∈ l) (ho : (cG x.1).2 = true) : lkM (cG x.1).1 (goP cG aG l) = some (contG cG aG x.2) := by
  have : contG cG aG x.2 = contG cG aG (copyC x.2) := by rw [(h.each x hx).2.2.2.1]
  rw [this]
  exact lkM_of_mem (goP_ok H hm h).sorted (List.mem_map.2 ⟨x, List.mem_filter.2 ⟨hx, ho⟩, rfl⟩)
theorem goStop_all {cG : Ad → Ad × Bool} {n : Int} {l : PG} (h : goStop cG n l = false) (hn : 0 < n) : ∀ x ∈ l, (cG x.1).2 = true := fun x hx => by
  unfold goStop at h
  have := List.any_eq_false.1 h x hx
  simpa [hn] using this
theorem lines_monoC {cols : Bool} {k n : Int} (h : LB (manyL cols) k n) : MonoC (cellF cols ⟨k, n, manyL cols⟩) := fun _ _ ha hb oa ob hl => lines_mono h ha hb oa ob hl
end Go.Proofs.YtlgkaipgdhcajaaGreatDoor
/- Two values are the same: value.Same answers as their keys do. -/
namespace Go.Proofs.YtlgkaipgdhcajaaGreatDoor
open Go.RowKit Go.Sort

/-! ### value.Same -/
theorem compare_0 : ∀ (a b : List UInt8), Lib.compareBytes a b = 0 ↔ a = b
  | [], [] => by simp [Lib.compareBytes]
  | [], _ :: _ => by simp [Lib.compareBytes]
  | _ :: _, [] => by simp [Lib.compareBytes]
  | x :: a, y :: b => by
    unfold Lib.compareBytes
    by_cases h1 : x < y
    · simp only [h1, if_true]
      refine ⟨fun h => by simp at h, fun h => ?_⟩
      cases h; exact absurd h1 (UInt8.lt_irrefl _)
    · by_cases h2 : y < x
      · simp only [h1, h2, if_false, if_true]
        refine ⟨fun h => by simp at h, fun h => ?_⟩
        cases h; exact absurd h2 (UInt8.lt_irrefl _)
      · have h3 : x = y := by
          rw [UInt8.not_lt] at h1 h2
          exact UInt8.le_antisymm h2 h1
        subst h3
        simp only [h1, if_false, compare_0 a b, List.cons.injEq, true_and]
set_option maxRecDepth 100000 in
theorem bytesCompare_any (a b : ByteArray) (w : World) : Calls Tryz.prog 122 #[.string a, .string b] w fun e w' => e = .returned (.int .i64 (Lib.compareBytes a.data.toList b.data.toList)) ∧ w = w' := by
  go_enter Tryz.func122, Tryz.ntmps122
  go_wp2
  rw [run_callFunc_extern Tryz.func134 (by kernel_rfl) (by kernel_rfl) (by kernel_rfl) (e := Extern.BytealgCompare.compare) (by kernel_rfl), Lib.run_compareString]
  simp only [Result.andThen]
  rw [Oper.upon_value]
  go_wp2
  go_ret
  exact ⟨rfl, rfl⟩
theorem sCompare_any (a b : ByteArray) (w : World) : Calls Tryz.prog 105 #[.string a, .string b] w fun e w' => e = .returned (.int .i64 (Lib.compareBytes a.data.toList b.data.toList)) ∧ w = w' := by
  have HC := Lib.hid (bytesCompare_any a b w)
  go_enter Tryz.func105, Tryz.ntmps105
  go_wp2_with (refine (HC.out).mono ?_; rintro e w' ⟨rfl, rfl⟩)
  go_ret
  exact ⟨rfl, rfl⟩
def oneB (b : Bool) : Int := if b then 1 else 0
theorem vone_any (b : Bool) (w : World) : Calls Tryz.prog 106 #[.bool b] w fun e w' => e = .returned (.int .i64 (oneB b)) ∧ w = w' := by
  cases b <;> (go_enter Tryz.func106, Tryz.ntmps106; go_wp2; go_ret; exact ⟨rfl, rfl⟩)
def placeX (x : Nat) : Int := if ordX x x != some .eq then 9223372036854775807 else if signX x = true then wrap64 (wrap64 (-(wrap64 (absX x))) - 1) else wrap64 (absX x)
set_option maxHeartbeats 1000000 in
theorem place_any (x : Nat) (w : World) : Calls Tryz.prog 121 #[.float .f64 x] w fun e w' => e = .returned (.int .i64 (placeX x)) ∧ w = w' := by
  have HC := Lib.hid (Abs_any x w)
  have HS := Lib.hid (Signbit_any x w)
  generalize hn : placeX x = ans
  have HA := Lib.hid hn
  unfold placeX ordX at HA
  generalize absX x = ax at HC HA
  clear hn
  go_enter Tryz.func121, Tryz.ntmps121
  go_wp2_with (first | (go_at_call 123; refine (HC.out).mono ?_; rintro e w' ⟨rfl, rfl⟩) | (go_at_call 125; refine (HS.out).mono ?_; rintro e w' ⟨rfl, rfl⟩))
  all_goals (go_ret; refine ⟨?_, rfl⟩; rw [← HA.out]; simp [*]; done)
def pordX (a b : Nat) : Int := cmpI (placeX a) (placeX b)
theorem pOrder_any (a b : Nat) (w : World) : Calls Tryz.prog 104 #[.float .f64 a, .float .f64 b] w fun e w' => e = .returned (.int .i64 (pordX a b)) ∧ w = w' := by
  have HC := Lib.hid (place_any a w)
  have HS := Lib.hid (place_any b w)
  generalize hn : pordX a b = ans
  have HA := Lib.hid hn
  unfold pordX cmpI at HA
  generalize placeX a = pa at HC HA
  generalize placeX b = pb at HS HA
  clear hn
  go_enter Tryz.func104, Tryz.ntmps104
  go_wp2_with (first | (refine (HC.out).mono ?_; clear HC; rintro e w' ⟨rfl, rfl⟩) | (refine (HS.out).mono ?_; clear HS; rintro e w' ⟨rfl, rfl⟩))
  all_goals (go_ret; refine ⟨?_, rfl⟩; rw [← HA.out])
  all_goals (first | (have hq1 : pa < pb := by omega
                      rw [if_pos hq1]; rfl) | (have hq1 : ¬ pa < pb := by omega
                                               have hq2 : pb < pa := by omega
                                               rw [if_neg hq1, if_pos hq2]; rfl) | (have hq1 : ¬ pa < pb := by omega
                                                                                    have hq2 : ¬ pb < pa := by omega
                                                                                    rw [if_neg hq1, if_neg hq2]; rfl))
/-- How two values stand, their kinds being the same. -/
def restO (a b : ValT) : Int :=
  if (a.kind == 1) = true then pordX a.x b.x else if (a.kind == 2) = true then Lib.compareBytes a.s.data.toList b.s.data.toList
  else if (a.kind == 3) = true then cmpI (oneB a.b) (oneB b.b) else if (a.kind == 4) = true then cmpI a.f b.f else 0
def orderV (a b : ValT) : Int := if (cmpI a.kind b.kind == 0) = true then restO a b else cmpI a.kind b.kind
set_option maxRecDepth 100000 in
set_option maxHeartbeats 4000000 in
theorem vOrder_any (a b : ValT) (w : World) : Calls Tryz.prog 89 #[valV a, valV b] w fun e w' => e = .returned (.int .i64 (orderV a b)) ∧ Gr w w' := by
  obtain ⟨w0, hw0, hg0, hs0, c0, c1, c2, c3, c4⟩ := boxV w a 48
  obtain ⟨w1, hw1, hg1, hs1, d0, d1, d2, d3, d4⟩ := boxV w0 b 48
  rw [hs0] at d0 d1 d2 d3 d4
  have cc := fun o => (hg1.xt.cells).1 w.heap.size o (by omega)
  have k0 := (cc 0).trans c0
  have k1 := (cc 1).trans c1
  have k2 := (cc 2).trans c2
  have k3 := (cc 3).trans c3
  have k4 := (cc 4).trans c4
  clear c0 c1 c2 c3 c4 cc hs1
  have HG := Lib.hid (hg0.trans hg1)
  clear hg0 hg1
  have HK := Lib.hid (fun w => compare_any a.kind b.kind w)
  have HF := Lib.hid (fun w => compare_any a.f b.f w)
  have HO := Lib.hid (fun w => compare_any (oneB a.b) (oneB b.b) w)
  have HP := Lib.hid (fun w => pOrder_any a.x b.x w)
  have HS := Lib.hid (fun w => sCompare_any a.s b.s w)
  have H1 := Lib.hid (fun w => vone_any a.b w)
  have H2 := Lib.hid (fun w => vone_any b.b w)
  generalize hn : orderV a b = ans
  have HA := Lib.hid hn
  unfold orderV restO at HA
  clear hn
  generalize cmpI a.kind b.kind = ck at HK HA
  generalize cmpI a.f b.f = cf at HF HA
  generalize cmpI (oneB a.b) (oneB b.b) = co at HO HA
  generalize pordX a.x b.x = po at HP HA
  generalize Lib.compareBytes a.s.data.toList b.s.data.toList = so at HS HA
  generalize oneB a.b = oa at HO H1
  generalize oneB b.b = ob at HO H2
  cases hck : ck == 0
  · go_enter Tryz.func89, Tryz.ntmps89
    go_wp2_with (go_at_call 103; refine (HK.out _).mono ?_; rintro e w' ⟨rfl, rfl⟩)
    go_ret
    exact ⟨by rw [← HA.out]; simp [hck], HG.out⟩
  cases h1 : a.kind == 1
  rotate_left
  · go_enter Tryz.func89, Tryz.ntmps89
    go_wp2_with (first | (go_at_call 103; refine (HK.out _).mono ?_; rintro e w' ⟨rfl, rfl⟩) | (go_at_call 104; refine (HP.out _).mono ?_; rintro e w' ⟨rfl, rfl⟩))
    go_ret
    exact ⟨by rw [← HA.out]; simp [hck, h1], HG.out⟩
  cases h2 : a.kind == 2
  rotate_left
  · go_enter Tryz.func89, Tryz.ntmps89
    go_wp2_with (first | (go_at_call 103; refine (HK.out _).mono ?_; rintro e w' ⟨rfl, rfl⟩) | (go_at_call 105; refine (HS.out _).mono ?_; rintro e w' ⟨rfl, rfl⟩))
    go_ret
    exact ⟨by rw [← HA.out]; simp [hck, h1, h2], HG.out⟩
  cases h3 : a.kind == 3
  rotate_left
  · go_enter Tryz.func89, Tryz.ntmps89
    go_wp2_with (first | (go_at_call 103; refine (HK.out _).mono ?_; clear HK; rintro e w' ⟨rfl, rfl⟩))
    go_quiet (first
      | ((go_at_call 106; exact Calls.quiet_of_same ((H1.out _).mono fun _ _ h => ⟨h.1, h.2.symm⟩)))
      | ((go_at_call 106; exact Calls.quiet_of_same ((H2.out _).mono fun _ _ h => ⟨h.1, h.2.symm⟩)))
      | ((go_at_call 103; exact Calls.quiet_of_same ((HO.out _).mono fun _ _ h => ⟨h.1, h.2.symm⟩))))
    go_wp2_with fail
    go_ret
    exact ⟨by rw [← HA.out]; simp [hck, h1, h2, h3], HG.out.drewN _⟩
  cases h4 : a.kind == 4
  · go_enter Tryz.func89, Tryz.ntmps89
    go_wp2_with (first | (go_at_call 103; refine (HK.out _).mono ?_; clear HK; rintro e w' ⟨rfl, rfl⟩))
    go_ret
    exact ⟨by rw [← HA.out]; simp [hck, h1, h2, h3, h4], HG.out⟩
  · go_enter Tryz.func89, Tryz.ntmps89
    go_wp2_with (first | (go_at_call 103; refine (HK.out _).mono ?_; clear HK; rintro e w' ⟨rfl, rfl⟩) | (go_at_call 103; refine (HF.out _).mono ?_; clear HF; rintro e w' ⟨rfl, rfl⟩))
    go_ret
    exact ⟨by rw [← HA.out]; simp [hck, h1, h2, h3, h4], HG.out⟩
/-- What a value is the same by. -/
inductive KeyV where
  | n (p : Int) | s (l : List UInt8) | b (b : Bool) | f (f : Int) | o
def keyV (v : ValT) : Int × KeyV := (v.kind, if (v.kind == 1) = true then .n (placeX v.x) else if (v.kind == 2) = true then .s v.s.data.toList else if (v.kind == 3) = true then .b v.b else if (v.kind == 4) = true then .f v.f else .o)
theorem cmpI_0 (a b : Int) : cmpI a b = 0 ↔ a = b := by
  unfold cmpI
  split <;> (try split) <;> omega
theorem order_key (a b : ValT) : orderV a b = 0 ↔ keyV a = keyV b := by
  unfold orderV restO keyV
  cases hc : cmpI a.kind b.kind == 0
  · have h : ¬ a.kind = b.kind := by rw [← cmpI_0]; simpa using hc
    simp only [Bool.false_eq_true, if_false]
    refine ⟨fun h2 => absurd ((cmpI_0 _ _).1 h2) h, fun h2 => absurd (congrArg Prod.fst h2) h⟩
  · have h : a.kind = b.kind := by rw [← cmpI_0]; simpa using hc
    rw [h]
    simp only [if_true]
    by_cases h1 : (b.kind == 1) = true
    · simp only [h1, if_true]; unfold pordX; rw [cmpI_0]; simp
    · simp only [h1, Bool.false_eq_true, if_false]
      by_cases h2 : (b.kind == 2) = true
      · simp only [h2, if_true]; rw [compare_0]; simp
      · simp only [h2, Bool.false_eq_true, if_false]
        by_cases h3 : (b.kind == 3) = true
        · simp only [h3, if_true]; rw [cmpI_0]; cases a.b <;> cases b.b <;> simp [oneB]
        · simp only [h3, Bool.false_eq_true, if_false]
          by_cases h4 : (b.kind == 4) = true
          · simp only [h4, if_true]; rw [cmpI_0]; simp
          · simp [h4]
noncomputable def sameVB (a b : ValT) : Bool := @decide (keyV a = keyV b) (Classical.propDecidable _)
theorem vSame_any (a b : ValT) (w : World) : Calls Tryz.prog 53 #[valV a, valV b] w fun e w' => e = .returned (.bool (sameVB a b)) ∧ Gr w w' := by
  obtain ⟨w0, hw0, hg0, hs0, c0, c1, c2, c3, c4⟩ := boxV w a 48
  obtain ⟨w1, hw1, hg1, hs1, d0, d1, d2, d3, d4⟩ := boxV w0 b 48
  rw [hs0] at d0 d1 d2 d3 d4
  have cc := fun o => (hg1.xt.cells).1 w.heap.size o (by omega)
  have k0 := (cc 0).trans c0
  have k1 := (cc 1).trans c1
  have k2 := (cc 2).trans c2
  have k3 := (cc 3).trans c3
  have k4 := (cc 4).trans c4
  clear c0 c1 c2 c3 c4 cc hs1
  have HG := Lib.hid (hg0.trans hg1)
  clear hg0 hg1
  have HC := Lib.hid (vOrder_any a b w1)
  have HK := Lib.hid (order_key a b)
  generalize orderV a b = ov at HC HK
  go_enter Tryz.func53, Tryz.ntmps53
  go_wp2_with (refine (HC.out).mono ?_; rintro e w2 ⟨rfl, hg2⟩; have HG2 := Lib.hid hg2; clear hg2)
  go_ret
  refine ⟨?_, HG.out.trans HG2.out⟩
  have hk := HK.out
  unfold sameVB
  by_cases h : ov = 0
  · have h2 := hk.1 h
    simp [h, h2]
  · have h2 : ¬ keyV a = keyV b := fun e => h (hk.2 e)
    simp [h, h2]
end Go.Proofs.YtlgkaipgdhcajaaGreatDoor
