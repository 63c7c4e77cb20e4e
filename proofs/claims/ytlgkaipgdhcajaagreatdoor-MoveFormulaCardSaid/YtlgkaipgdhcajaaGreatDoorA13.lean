import Derived.Test.YtlgkaipgdhcajaaGreatDoorM9
import Derived.Test.YtlgkaipgdhcajaaGreatDoorW18
import Derived.Test.YtlgkaipgdhcajaaGreatDoorA1
import Derived.Test.YtlgkaipgdhcajaaGreatDoorA2
import Derived.Laws.MakeOwn
import Derived.Test.YtlgkaipgdhcajaaGreatDoorM5
import Derived.Laws.Bits64b
import Derived.Test.YtlgkaipgdhcajaaGreatDoorA10
import Derived.Test.YtlgkaipgdhcajaaGreatDoorW22
/- move.Formula (made by mkn1.py). -/
namespace Go.Proofs.YtlgkaipgdhcajaaGreatDoor
open Go.RowKit Go.Sort

abbrev zeroN : NodeT := .mk 0 0 0 ⟨#[]⟩ false 0 zR zR []
def formP (cols : Bool) (at_ cnt : Int) (t : NodeT) : NodeT × Int :=
  if checkT t ≠ 0 then (zeroN, checkT t) else if (madeL (manyL cols) at_ cnt).2 = false then (zeroN, 1) else (turnT (cellF cols ⟨at_, cnt, manyL cols⟩) (areaF cols ⟨at_, cnt, manyL cols⟩) (copyT t), 0)
/-- A formula and its error, in memory of its own. -/
def OutR (r : NodeT) (code : Int) (w : World) (e : Ending) (w' : World) : Prop :=
  ∃ a2 c2 n', e = .returned (.tuple #[nodeV r a2 r.args.length c2, .int .i64 code]) ∧ SepIn (fun b => w.heap.size ≤ b ∧ b < w'.heap.size) w' n' (.slice a2 r.args.length c2) r.args ∧ Xt w w'
theorem all15 (u : NodeT) (a : Option Addr) (n c : Nat) : (nodeC u (.slice a n c)).toArray.all (·.oneCell') = true := all_oneCell_toArray (nodeC_one u _ rfl)
set_option maxRecDepth 100000 in
set_option maxHeartbeats 4000000 in
theorem formula_any (n : Nat) (t : NodeT) (a : Option Addr) (cap : Nat) (cols : Bool) (at_ cnt : Int) (w : World) (hok : t.ok) (hT : Tabs w) (hsm : smallT t) (hin : ArgsIn w n (.slice a t.args.length cap) t.args) :
    Calls Tryz.prog 8 #[nodeV t a t.args.length cap, .bool cols, .int .i64 at_, .int .i64 cnt] w (OutR (formP cols at_ cnt t).1 (formP cols at_ cnt t).2 w) := by
  obtain ⟨B, hB⟩ : ∃ B, w.heap.size = B := ⟨_, rfl⟩
  have HBw := Lib.hid hB
  obtain ⟨w0, hw0⟩ : ∃ w0, w.alloc (.cells #[.int .i64 t.kind, .int .i64 t.op, .float .f64 t.x, .string t.s, .bool t.b, .int .i64 t.f, .int .i64 t.ref.a.1, .int .i64 t.ref.a.2, .bool t.ref.cf, .bool t.ref.rf, .int .i64 t.to.a.1, .int .i64 t.to.a.2, .bool t.to.cf, .bool t.to.rf, .slice a t.args.length cap] 29) = w0 := ⟨_, rfl⟩
  have hs0 : w0.heap.size = B + 1 := by rw [← hw0, ← hB]; simp
  obtain ⟨w1, hw1⟩ : ∃ w1, w0.alloc (.cells #[.int .i64 0, .int .i64 0, .float .f64 0, .string ⟨#[]⟩, .bool false, .int .i64 0, .int .i64 0, .int .i64 0, .bool false, .bool false, .int .i64 0, .int .i64 0, .bool false, .bool false, .slice none 0 0] 29) = w1 := ⟨_, rfl⟩
  have hs1 : w1.heap.size = B + 1 + 1 := by rw [← hw1]; simp [hs0]
  have hx1 : Xt w w1 := by rw [← hw1, ← hw0]; exact ((Xt.refl _).alloc _).alloc _
  have r0 : w1.heap[B]? = some (.cells #[.int .i64 t.kind, .int .i64 t.op, .float .f64 t.x, .string t.s, .bool t.b, .int .i64 t.f, .int .i64 t.ref.a.1, .int .i64 t.ref.a.2, .bool t.ref.cf, .bool t.ref.rf, .int .i64 t.to.a.1, .int .i64 t.to.a.2, .bool t.to.cf, .bool t.to.rf, .slice a t.args.length cap] 29 (0, 0)) := rowX (w := w0) (by rw [← hw1]; exact (Xt.refl _).alloc _) (by rw [← hw0, ← hB]; exact (MapKept.heap_alloc w _).1)
  have r1 : w1.heap[B + 1]? = some (.cells #[.int .i64 0, .int .i64 0, .float .f64 0, .string ⟨#[]⟩, .bool false, .int .i64 0, .int .i64 0, .int .i64 0, .bool false, .bool false, .int .i64 0, .int .i64 0, .bool false, .bool false, .slice none 0 0] 29 (0, 0)) := by rw [← hw1, ← hs0]; exact (MapKept.heap_alloc w0 _).1
  have HX1 := Lib.hid hx1
  have HR0 := Lib.hid r0
  have HR1 := Lib.hid r1
  have HSM := Lib.hid hsm
  have HIN := Lib.hid hin
  have HCH := Lib.hid (Check_any n t a cap w1 hok (hT.xt hx1) (hin.xt hx1))
  have HM := Lib.hid (lmade_any cols at_ cnt)
  obtain ⟨ok, hmk⟩ : ∃ ok, (madeL (manyL cols) at_ cnt).2 = ok := ⟨_, rfl⟩
  have HL : Hid ((madeL (manyL cols) at_ cnt).1 = ⟨at_, cnt, manyL cols⟩) := rfl
  simp only [hmk] at HM
  rw [HL.out] at HM
  have HMK := Lib.hid hmk
  obtain ⟨k, hk⟩ : ∃ k, checkT t = k := ⟨_, rfl⟩
  rw [hk] at HCH
  have HK := Lib.hid hk
  clear hok hT hsm hin hx1 r0 r1 hmk HL hk
  go_enter Tryz.func8, Tryz.ntmps8
  by_cases hk0 : k = 0
  rotate_left
  · have hkb : (k != 0) = true := by simpa using hk0
    go_wp2_with (first
      | (refine wpList_load_row (P := Tryz.prog) rfl 29 _ rfl B rfl 29 _ (0, 0) _ HR0.out Tryz.underlying29 rfl (by kernel_rfl) ?_)
      | (go_at_call 33; refine (HCH.out).mono ?_; rintro e w2 ⟨rfl, hx2⟩; have HX2 := Lib.hid hx2; clear hx2)
      | (refine wpList_store_row (P := Tryz.prog) rfl 29 _ _ rfl (B + 1) #[.int .i64 0, .int .i64 0, .float .f64 0, .string ⟨#[]⟩, .bool false, .int .i64 0, .int .i64 0, .int .i64 0, .bool false, .bool false, .int .i64 0, .int .i64 0, .bool false, .bool false, .slice none 0 0] rfl rfl 29 _ (rowX HX2.out HR1.out) (by kernel_rfl) (by kernel_rfl) (all15 zeroN none 0 0) ?_))
    (try simp only [Exit.inBlock, Exit.then])
    refine bodyPost_ret (v := .tuple #[.agg #[.int .i64 0, .int .i64 0, .float .f64 0, .string ⟨#[]⟩, .bool false, .int .i64 0, .int .i64 0, .int .i64 0, .bool false, .bool false, .int .i64 0, .int .i64 0, .bool false, .bool false, .slice none 0 0], .int .i64 k]) ?_ rfl ?_
    · rw [results_cell_tmp rfl]
      show ((asAddr (.pointer (some ⟨B + 1, 0, none⟩))).run _ _).andThen _ = _
      simp only [asAddr, Sem.run_pure, Result.andThen_ok, run_loadVar_row _ _ _ 29 #[.int .i64 0, .int .i64 0, .float .f64 0, .string ⟨#[]⟩, .bool false, .int .i64 0, .int .i64 0, .int .i64 0, .bool false, .bool false, .int .i64 0, .int .i64 0, .bool false, .bool false, .slice none 0 0] _ _ (setRow_heap _ _ _ _ _ _ (rowX HX2.out HR1.out)) Tryz.underlying29 rfl (by kernel_rfl)]
      rfl
    · have hP : formP cols at_ cnt t = (zeroN, k) := by unfold formP; rw [if_pos (by rw [HK.out]; exact hk0), HK.out]
      rw [hP]
      exact ⟨none, 0, 0, rfl, SepIn.nil 0, (HX1.out.trans HX2.out).grownB (setRow_grown _ _ _) (fun q hq => by cases hq; have := HBw.out; omega)⟩
  subst hk0
  cases ok
  · go_wp2_with (first
      | (refine wpList_load_row (P := Tryz.prog) rfl 29 _ rfl B rfl 29 _ (0, 0) _ HR0.out Tryz.underlying29 rfl (by kernel_rfl) ?_)
      | (go_at_call 33; refine (HCH.out).mono ?_; rintro e w2 ⟨rfl, hx2⟩; have HX2 := Lib.hid hx2; clear hx2)
      | (go_at_call 34; refine (HM.out _).mono ?_; rintro e w3 ⟨rfl, hx3⟩; obtain ⟨wA, hwA⟩ : ∃ wA, w3.alloc (.cells #[.int .i64 at_, .int .i64 cnt, .int .i64 (manyL cols)] 79) = wA := ⟨_, rfl⟩; have HXA : Hid (Xt w1 wA) := (by unfold Hid; rw [← hwA]; exact (HX2.out.trans hx3).alloc _); clear hx3)
      | (refine wpList_store_row (P := Tryz.prog) rfl 29 _ _ rfl (B + 1) #[.int .i64 0, .int .i64 0, .float .f64 0, .string ⟨#[]⟩, .bool false, .int .i64 0, .int .i64 0, .int .i64 0, .bool false, .bool false, .int .i64 0, .int .i64 0, .bool false, .bool false, .slice none 0 0] rfl rfl 29 _ (rowX HXA.out HR1.out) (by kernel_rfl) (by kernel_rfl) (all15 zeroN none 0 0) ?_))
    (try simp only [Exit.inBlock, Exit.then])
    refine bodyPost_ret (v := .tuple #[.agg #[.int .i64 0, .int .i64 0, .float .f64 0, .string ⟨#[]⟩, .bool false, .int .i64 0, .int .i64 0, .int .i64 0, .bool false, .bool false, .int .i64 0, .int .i64 0, .bool false, .bool false, .slice none 0 0], .int .i64 1]) ?_ rfl ?_
    · rw [results_cell_tmp rfl]
      show ((asAddr (.pointer (some ⟨B + 1, 0, none⟩))).run _ _).andThen _ = _
      simp only [asAddr, Sem.run_pure, Result.andThen_ok, run_loadVar_row _ _ _ 29 #[.int .i64 0, .int .i64 0, .float .f64 0, .string ⟨#[]⟩, .bool false, .int .i64 0, .int .i64 0, .int .i64 0, .bool false, .bool false, .int .i64 0, .int .i64 0, .bool false, .bool false, .slice none 0 0] _ _ (setRow_heap _ _ _ _ _ _ (rowX HXA.out HR1.out)) Tryz.underlying29 rfl (by kernel_rfl)]
      rfl
    · have hP : formP cols at_ cnt t = (zeroN, 1) := by unfold formP; rw [if_neg (by rw [HK.out]; simp), if_pos HMK.out]
      rw [hP]
      exact ⟨none, 0, 0, rfl, SepIn.nil 0, (HX1.out.trans HXA.out).grownB (setRow_grown _ _ _) (fun q hq => by cases hq; have := HBw.out; omega)⟩
  · go_wp2_with (first
      | (refine wpList_load_row (P := Tryz.prog) rfl 29 _ rfl B rfl 29 _ (0, 0) _ HR0.out Tryz.underlying29 rfl (by kernel_rfl) ?_)
      | (go_at_call 33; refine (HCH.out).mono ?_; rintro e w2 ⟨rfl, hx2⟩; have HX2 := Lib.hid hx2; clear hx2)
      | (go_at_call 34; refine (HM.out _).mono ?_; rintro e w3 ⟨rfl, hx3⟩; obtain ⟨wA, hwA⟩ : ∃ wA, w3.alloc (.cells #[.int .i64 at_, .int .i64 cnt, .int .i64 (manyL cols)] 79) = wA := ⟨_, rfl⟩; have HXA : Hid (Xt w1 wA) := (by unfold Hid; rw [← hwA]; exact (HX2.out.trans hx3).alloc _); have HRL : Hid (wA.heap[w3.heap.size]? = some (.cells #[.int .i64 at_, .int .i64 cnt, .int .i64 (manyL cols)] 79 (0, 0))) := (by unfold Hid; rw [← hwA]; exact (MapKept.heap_alloc w3 _).1); clear hx3))
    have HF : Hid (∀ V, Wr (fun b => b = B + 1) wA V → (V.cell? ⟨w3.heap.size, 0, none⟩ = some (.int .i64 at_) ∧ V.cell? ⟨w3.heap.size, 1, none⟩ = some (.int .i64 cnt) ∧ V.cell? ⟨w3.heap.size, 2, none⟩ = some (.int .i64 (manyL cols))) ∧ V.heap[B]? = some (.cells #[.int .i64 t.kind, .int .i64 t.op, .float .f64 t.x, .string t.s, .bool t.b, .int .i64 t.f, .int .i64 t.ref.a.1, .int .i64 t.ref.a.2, .bool t.ref.cf, .bool t.ref.rf, .int .i64 t.to.a.1, .int .i64 t.to.a.2, .bool t.to.cf, .bool t.to.rf, .slice a t.args.length cap] 29 (0, 0))) := Lib.hid fun V hV => by
      have hl := HRL.out
      have hb := rowX HXA.out HR0.out
      have hne : w3.heap.size ≠ B + 1 := fun e => by
        have := (rowX HXA.out HR1.out)
        rw [← e, hl] at this
        cases this
      have h1 := (hV.block _ (Array.getElem?_eq_some_iff.1 hl).1 hne).trans hl
      exact ⟨(cells3 h1).1, (hV.block B (Array.getElem?_eq_some_iff.1 hb).1 (by omega)).trans hb⟩
    refine wp_region_held_drew (S := fun V => Wr (fun b => b = B + 1) wA V) (by kernel_rfl) (Wr.of_xt (Xt.refl wA).drew) (fun hHeld => ?_)
    refine wpAnyH_take (i := 0) (oi := _) (v := ?_) rfl (by kernel_rfl) (by kernel_rfl) (by kernel_rfl) (fun _ _ _ h => h) (Or.inl ⟨by rfl, ?_⟩) (by assumption) ?_
    rotate_left
    · intro V hSw; obtain ⟨⟨u0, u1, u2⟩, _⟩ := HF.out V hSw; go_simp; first | done | with_reducible rfl
    try simp only [Act.put, List.getElem_toArray, List.getElem_cons_zero, List.setIfInBounds_toArray, List.set_cons_zero, List.set_cons_succ]
    refine wpAnyH_take (i := 1) (oi := _) (v := ?_) rfl (by kernel_rfl) (by kernel_rfl) (by kernel_rfl) (fun _ _ _ h => h) (Or.inl ⟨by rfl, ?_⟩) (by assumption) ?_
    rotate_left
    · intro V hSw; obtain ⟨⟨u0, u1, u2⟩, _⟩ := HF.out V hSw; go_simp; first | done | with_reducible rfl
    try simp only [Act.put, List.getElem_toArray, List.getElem_cons_zero, List.getElem_cons_succ, List.setIfInBounds_toArray, List.set_cons_zero, List.set_cons_succ]
    refine wpAnyH_take (i := 3) (oi := _) (v := .agg #[.int .i64 t.kind, .int .i64 t.op, .float .f64 t.x, .string t.s, .bool t.b, .int .i64 t.f, .int .i64 t.ref.a.1, .int .i64 t.ref.a.2, .bool t.ref.cf, .bool t.ref.rf, .int .i64 t.to.a.1, .int .i64 t.to.a.2, .bool t.to.cf, .bool t.to.rf, .slice a t.args.length cap]) rfl (by kernel_rfl) (by kernel_rfl) (by kernel_rfl) (fun _ _ _ h => h) (Or.inl ⟨by rfl, ?_⟩) (by assumption) ?_
    · intro V hSw; exact exec_load_row 29 _ (by rfl) B (by rfl) 29 _ _ _ (HF.out V hSw).2 Tryz.underlying29 rfl (by kernel_rfl)
    try simp only [Act.put, List.getElem_toArray, List.getElem_cons_zero, List.getElem_cons_succ, List.setIfInBounds_toArray, List.set_cons_zero, List.set_cons_succ]
    refine wpAnyH_ready (rs := [2]) (by kernel_rfl) (by simp) ?_
    refine AllReadyH.cons (o := _) rfl (fun K hK => ?_) AllReadyH.nil
    go_simp
    refine (road_any cols ⟨at_, cnt, manyL cols⟩ _).mono ?_
    rintro e w4 ⟨pc, pl, rfl, hLA, hx4⟩
    have HX4 : Hid (Xt wA w4) := (Xt.refl wA).drew.trans hx4
    have HLA := Lib.hid hLA
    have hpl : pc < w4.heap.size ∧ pl < w4.heap.size := ⟨World.block_lt_of_cell? w4 _ hLA.c, World.block_lt_of_cell? w4 _ hLA.c0⟩
    have HTU := Lib.hid (turned_any (lines_road (m := w4.heap.size) cols ⟨at_, cnt, manyL cols⟩ pc pl hpl) n t a cap w4 ⟨hLA, Nat.le_refl _⟩ HSM.out (HIN.out.xt (HX1.out.trans (HXA.out.trans HX4.out))) (fault_okAs t false (checkT_zero HK.out)))
    refine hK.out _ _ (Wr.of_xt HX4.out) (fun hHeld2 => ?_)
    clear hLA hx4
    clear hK K
    try simp only [Act.put, List.getElem_toArray, List.getElem_cons_zero, List.getElem_cons_succ, List.setIfInBounds_toArray, List.set_cons_zero, List.set_cons_succ]
    refine wpAnyH_ready (rs := [4]) (by kernel_rfl) (by simp) ?_
    refine AllReadyH.cons (o := _) rfl (fun K hK => ?_) AllReadyH.nil
    go_simp
    obtain ⟨r, hr⟩ : ∃ r, turnT (cellF cols ⟨at_, cnt, manyL cols⟩) (areaF cols ⟨at_, cnt, manyL cols⟩) (copyT t) = r := ⟨_, rfl⟩
    rw [hr] at HTU
    refine (HTU.out).mono ?_
    rintro e w5 ⟨a2, c2, rfl, hS5, hx5⟩
    have HX5 : Hid (Xt wA w5) := HX4.out.trans hx5
    have HS5 := Lib.hid hS5
    have hs45 := HX4.out.size
    have HRS := Lib.hid hr
    refine hK.out _ _ (Wr.of_xt HX5.out) (fun hHeld3 => ?_)
    clear hS5 hx5 hr
    clear hK K
    try simp only [Act.put, List.getElem_toArray, List.getElem_cons_zero, List.getElem_cons_succ, List.setIfInBounds_toArray, List.set_cons_zero, List.set_cons_succ]
    refine wpAnyH_ready (rs := [5]) (by kernel_rfl) (by simp) ?_
    refine AllReadyH.cons (o := _) rfl (fun K hK => ?_) AllReadyH.nil
    rw [if_pos (by rfl)]
    refine wp_store_row (P := Tryz.prog) 29 _ _ rfl (B + 1) (nodeC r (.slice a2 r.args.length c2)).toArray rfl rfl 29 _ (rowX HX5.out (rowX HXA.out HR1.out)) (by kernel_rfl) (by kernel_rfl) (all15 r a2 r.args.length c2) ?_
    refine hK.out _ _ ((Wr.of_xt HX5.out).trans (Wr.row _ rfl)) (fun hHeld4 => ?_)
    clear hK K
    try simp only [Act.put, List.getElem_toArray, List.getElem_cons_zero, List.getElem_cons_succ]
    refine wpAnyH_ready (rs := [6]) (by kernel_rfl) (by simp) ?_
    refine AllReadyH.cons (o := _) rfl (fun K hK => ?_) AllReadyH.nil
    go_simp
    refine hK.out _ _ ((Wr.of_xt HX5.out).trans (Wr.row _ rfl)) (fun hHeld5 => ?_)
    clear hK K
    try simp only [Act.put, List.getElem_toArray, List.getElem_cons_zero, List.getElem_cons_succ, List.setIfInBounds_toArray, List.set_cons_zero, List.set_cons_succ]
    refine wpAnyH_done (by kernel_rfl) ?_ _
    go_wp2_with fail
    (try simp only [Exit.inBlock, Exit.then])
    refine bodyPost_ret (v := .tuple #[.agg (nodeC r (.slice a2 r.args.length c2)).toArray, .int .i64 0]) ?_ rfl ?_
    · rw [results_cell_tmp rfl]
      show ((asAddr (.pointer (some ⟨B + 1, 0, none⟩))).run _ _).andThen _ = _
      simp only [asAddr, Sem.run_pure, Result.andThen_ok, run_loadVar_row _ _ _ 29 (nodeC r (.slice a2 r.args.length c2)).toArray _ _ (setRow_heap _ _ _ _ _ _ (rowX HX5.out (rowX HXA.out HR1.out))) Tryz.underlying29 rfl (by kernel_rfl)]
      rfl
    · have hP : formP cols at_ cnt t = (r, 0) := by unfold formP; rw [if_neg (by rw [HK.out]; simp), if_neg (by rw [HMK.out]; simp), HRS.out]
      rw [hP]
      have hBw := HBw.out
      have hwA := HX1.out.size
      have hA2 := HXA.out.size
      refine ⟨a2, c2, n, rfl, ?_, ?_⟩
      · refine (HS5.out.keep (fun b hb hlt => setRow_other _ _ _ _ (by have := hb.1; omega))).weak (fun b hb hlt => ⟨by have := hb.1; omega, hlt⟩)
      · exact ((HX1.out.trans HXA.out).trans HX5.out).grownB (setRow_grown _ _ _) (fun q hq => by cases hq; omega)
end Go.Proofs.YtlgkaipgdhcajaaGreatDoor
/- quadrilleref22: how many lines; their places; a span of them. -/
namespace Go.Proofs.YtlgkaipgdhcajaaGreatDoor
open Go.RowKit Go.Sort

abbrev intC (x : Int) : List Value := [.int .i64 x]
theorem intC_len (x : Int) : (intC x).length = 1 := rfl
/-- Where a line is brought; 0: it goes. -/
def placeV (m a n k : Int) : Int := if k < 1 then 0 else if k < a then k else if 0 ≤ n then (if k + n ≤ m then k + n else 0) else (if k < a - n then 0 else k + n)
def nextV (a n k : Int) : Int := if k ≤ a then k else if 0 ≤ n then k + n else if k ≤ a - n then a else k + n
def placesK (m : Nat) (a n : Int) (k : Nat) : List Int := (List.range (m + 1)).map fun (j : Nat) => if j < k then placeV m a n j else 0
def placesL (m : Nat) (a n : Int) : List Int := placesK m a n (m + 1)
theorem placesK_len (m : Nat) (a n : Int) (k : Nat) : (placesK m a n k).length = m + 1 := by simp [placesK]
theorem placesK_zero (m : Nat) (a n : Int) : placesK m a n 1 = List.replicate (m + 1) 0 := by
  refine List.ext_getElem (by simp [placesK]) fun i h1 h2 => ?_
  simp only [placesK, List.getElem_map, List.getElem_range, List.getElem_replicate]
  split
  · have : i = 0 := by omega
    subst this; simp [placeV]
  · rfl
theorem placesK_set {m : Nat} {a n : Int} {k : Nat} {v : Int} (_hk : k ≤ m) (hv : v = placeV m a n k) : (placesK m a n k).set k v = placesK m a n (k + 1) := by
  subst hv
  refine List.ext_getElem (by simp [placesK]) fun i h1 h2 => ?_
  simp only [placesK, List.getElem_set, List.getElem_map, List.getElem_range]
  by_cases e : k = i
  · subst e; simp
  · rw [if_neg e]
    by_cases h : i < k
    · rw [if_pos h, if_pos (by omega)]
    · rw [if_neg h, if_neg (by omega)]
theorem placesK_skip {m : Nat} {a n : Int} {k : Nat} (hv : placeV m a n k = 0) : placesK m a n k = placesK m a n (k + 1) := by
  unfold placesK
  refine List.map_congr_left fun j _ => ?_
  by_cases h : j < k
  · rw [if_pos h, if_pos (by omega)]
  · rw [if_neg h]
    by_cases e : j = k
    · subst e; rw [if_pos (by omega), hv]
    · rw [if_neg (by omega)]
theorem placesL_at {m : Nat} {a n : Int} {k : Nat} (hk : k ≤ m) : (placesL m a n)[k]? = some (placeV m a n k) := by
  unfold placesL placesK
  rw [List.getElem?_map, List.getElem?_range (by omega)]
  simp; omega
theorem rowInt_set {w : World} {g : Nat} {T : TypeId} {cap : Nat} {d : List Int} (h : RowL w g T cap 1 intC d) {j : Nat} (hj : j < d.length) (y : Int) : RowL (w.setCell ⟨g, j, none⟩ (.int .i64 y)) g T cap 1 intC (d.set j y) := by
  have := h.set intC_len hj y
  simpa [World.setCells] using this
theorem infoInt : (Tryz.prog.info? 3).map (fun i => (i.zero, i.size, i.bytes)) = some (some (.int .i64 0), 1, 8) := by kernel_rfl
theorem run_makeInts (m : Nat) (hm : m ≤ 4096) (w : World) : ∃ w', (Instr.makeSlice 90 (.int .i64 ((m : Int) + 1)) (.int .i64 ((m : Int) + 1))).run Tryz.prog w = .ok (.slice (some ⟨w.heap.size, 0, none⟩) (m + 1) (m + 1)) w' ∧ RowL w' w.heap.size 3 (m + 1) 1 intC (List.replicate (m + 1) 0) ∧ Xt w w' := by
  obtain ⟨i0, hi, hz0, hz1, hz2⟩ := info_parts infoInt
  have h := run_makeSlice (P := Tryz.prog) w 90 3 i0 (.int .i64 0) Tryz.underlying90 hi hz0 .i64 .i64 ((m : Int) + 1) ((m : Int) + 1) (by omega) (Int.le_refl _) (by rw [hz1]; omega) (by rw [hz2]; omega) (by omega)
  have e : ((m : Int) + 1).toNat = m + 1 := by omega
  rw [e, hz1] at h
  refine ⟨_, h, ⟨_, (MapKept.heap_alloc w _).1, by simp [size_madeCells], by simp, fun j x hx i u hu => ?_⟩, (Xt.refl w).alloc _⟩
  obtain ⟨hj, rfl⟩ := List.getElem?_eq_some_iff.1 hx
  simp only [List.length_replicate] at hj
  cases i with
  | zero =>
    simp only [intC, List.getElem?_cons_zero, List.getElem_replicate, Option.some.injEq] at hu
    subst hu
    simp only [madeCells, Value.cells, Nat.mul_one, Nat.add_zero]
    rw [Array.getElem?_map, Array.getElem?_range]
    simp [hj, Nat.mod_one]
  | succ i => simp [intC] at hu
/-- The table that Places makes. -/
def PlacesR (m : Nat) (a n : Int) (w : World) (e : Ending) (w' : World) : Prop := ∃ g, e = .returned (.slice (some ⟨g, 0, none⟩) (m + 1) (m + 1)) ∧ RowL w' g 3 (m + 1) 1 intC (placesL m a n) ∧ w.heap.size ≤ g ∧ Xt w w'
set_option maxRecDepth 100000 in
set_option maxHeartbeats 4000000 in
theorem places_any (m : Nat) (a n : Int) (w : World) (hm : m ≤ 4096) (ha : 1 ≤ a ∧ a ≤ m) (hn : -(m : Int) ≤ n ∧ n ≤ m) :
    Calls Tryz.prog 40 #[.int .i64 m, .int .i64 a, .int .i64 n] w (PlacesR m a n w) := by
  obtain ⟨wM, hmk, hrow, hxM⟩ := run_makeInts m hm w
  have hw1 : wrap64 ((m : Int) + 1) = (m : Int) + 1 := by unfold wrap64; omega
  obtain ⟨g, hg⟩ : ∃ g, w.heap.size = g := ⟨_, rfl⟩
  rw [hg] at hmk hrow
  have HROW : Hid (RowL wM g 3 (m + 1) 1 intC (placesK m a n 1)) := by unfold Hid; rw [placesK_zero]; exact hrow
  have HXM := Lib.hid hxM
  have HGW := Lib.hid hg
  clear hrow hxM
  go_enter Tryz.func40, Tryz.ntmps40
  go_wp2_with fail
  clear hmk
  go_loopw [8, 9] (fun s8 s9 wr => ∃ k : Nat, 1 ≤ k ∧ k ≤ m + 1 ∧ s8 = .int .i64 (nextV a n k) ∧ s9 = .int .i64 (k : Int) ∧ Hid (RowL wr g 3 (m + 1) 1 intC (placesK m a n k)) ∧ Hid (Xt w wr)) (fun _ s9 _ => m + 1 - (intOf s9).toNat)
  case atStart => exact ⟨1, Nat.le_refl _, by omega, by unfold nextV; rw [if_pos (by omega)]; rfl, rfl, HROW, HXM⟩
  case round =>
    clear HROW HXM
    obtain ⟨k, hk1, hkm, rfl, rfl, HR, HX⟩ := hrel
    -- ROUND
    by_cases hle : (k : Int) ≤ m
    · have hk1w : wrap64 ((k : Int) + 1) = (k : Int) + 1 := by unfold wrap64; omega
      by_cases n0 : n < 0
      · have n1 : ¬ 0 < n := by omega
        have hsub : wrap64 (a - n) = a - n := by unfold wrap64; omega
        by_cases h1 : (k : Int) < a
        · have h1' : ¬ a ≤ (k : Int) := by omega
          have hka : ((k : Int) == a) = false := by simp; omega
          have hcur : nextV a n (k : Int) = (k : Int) := by unfold nextV; (repeat' split) <;> omega
          rw [hcur]
          obtain ⟨z, hz⟩ : ∃ z, wrap64 ((k : Int) + 1) = z := ⟨_, rfl⟩
          have hz2 : nextV a n ((k + 1 : Nat) : Int) = z := by rw [← hz]; unfold nextV wrap64; (repeat' split) <;> omega
          have hpl : placeV m a n (k : Int) = (k : Int) := by unfold placeV; (repeat' split) <;> omega
          have hlen := placesK_len m a n k
          have hhas := HR.out.has (o := k) (by omega)
          have hfz := HR.out.froz k
          obtain ⟨uo, huo⟩ := Option.isSome_iff_exists.1 hhas
          have HS := Lib.hid (rowInt_set HR.out (j := k) (by omega) ((k : Int)))
          have HX2 : Hid (Xt w (wr.setCell ⟨g, k, none⟩ (.int .i64 ((k : Int))))) := HX.out.grownB (setCell_grown _ _ _ _) (fun q hq => by cases hq; have := HGW.out; omega)
          rw [placesK_set (by omega) hpl.symm] at HS
          clear hcur hpl HR HX
          have HZ := Lib.hid hz2
          clear hz2
          try clear heqk
          go_wp2_with fail
          go_roundw
          case rel => exact ⟨k + 1, by omega, by omega, by first | (rw [HZ.out]; done) | (rw [HZ.out, ← hz]; congr 1; unfold wrap64; omega), by go_num, HS, HX2⟩
          case measure => simp [intOf]; omega
        · have h1' : a ≤ (k : Int) := by omega
          by_cases h2 : (k : Int) < a - n
          · by_cases h3 : (k : Int) = a
            · have hka : ((k : Int) == a) = true := by simp [h3]
              have hcur : nextV a n (k : Int) = a := by unfold nextV; (repeat' split) <;> omega
              rw [hcur]
              have hz2 : nextV a n ((k + 1 : Nat) : Int) = a := by unfold nextV; (repeat' split) <;> omega
              have hpl : placeV m a n (k : Int) = 0 := by unfold placeV; (repeat' split) <;> omega
              have HS := HR
              rw [placesK_skip hpl] at HS
              have HX2 := HX
              clear hcur hpl HR HX
              have HZ := Lib.hid hz2
              clear hz2
              try clear heqk
              go_wp2_with fail
              go_roundw
              case rel => exact ⟨k + 1, by omega, by omega, by first | (rw [HZ.out]; done) | (rw [HZ.out, ← hz]; congr 1; unfold wrap64; omega), by go_num, HS, HX2⟩
              case measure => simp [intOf]; omega
            · have hka : ((k : Int) == a) = false := by simp [h3]
              have hcur : nextV a n (k : Int) = a := by unfold nextV; (repeat' split) <;> omega
              rw [hcur]
              have hz2 : nextV a n ((k + 1 : Nat) : Int) = a := by unfold nextV; (repeat' split) <;> omega
              have hpl : placeV m a n (k : Int) = 0 := by unfold placeV; (repeat' split) <;> omega
              have HS := HR
              rw [placesK_skip hpl] at HS
              have HX2 := HX
              clear hcur hpl HR HX
              have HZ := Lib.hid hz2
              clear hz2
              try clear heqk
              go_wp2_with fail
              go_roundw
              case rel => exact ⟨k + 1, by omega, by omega, by first | (rw [HZ.out]; done) | (rw [HZ.out, ← hz]; congr 1; unfold wrap64; omega), by go_num, HS, HX2⟩
              case measure => simp [intOf]; omega
          · by_cases h3 : (k : Int) = a
            · omega
            · have hka : ((k : Int) == a) = false := by simp [h3]
              have hnm : (k : Int) + n ≤ m := by omega
              have hcur : nextV a n (k : Int) = (k : Int) + n := by unfold nextV; (repeat' split) <;> omega
              rw [hcur]
              obtain ⟨z, hz⟩ : ∃ z, wrap64 ((k : Int) + n + 1) = z := ⟨_, rfl⟩
              have hz2 : nextV a n ((k + 1 : Nat) : Int) = z := by rw [← hz]; unfold nextV wrap64; (repeat' split) <;> omega
              have hpl : placeV m a n (k : Int) = (k : Int) + n := by unfold placeV; (repeat' split) <;> omega
              have hlen := placesK_len m a n k
              have hhas := HR.out.has (o := k) (by omega)
              have hfz := HR.out.froz k
              obtain ⟨uo, huo⟩ := Option.isSome_iff_exists.1 hhas
              have HS := Lib.hid (rowInt_set HR.out (j := k) (by omega) ((k : Int) + n))
              have HX2 : Hid (Xt w (wr.setCell ⟨g, k, none⟩ (.int .i64 ((k : Int) + n)))) := HX.out.grownB (setCell_grown _ _ _ _) (fun q hq => by cases hq; have := HGW.out; omega)
              rw [placesK_set (by omega) hpl.symm] at HS
              clear hcur hpl HR HX
              have HZ := Lib.hid hz2
              clear hz2
              try clear heqk
              go_wp2_with fail
              go_roundw
              case rel => exact ⟨k + 1, by omega, by omega, by first | (rw [HZ.out]; done) | (rw [HZ.out, ← hz]; congr 1; unfold wrap64; omega), by go_num, HS, HX2⟩
              case measure => simp [intOf]; omega
      · by_cases h1 : (k : Int) < a
        · have hka : ((k : Int) == a) = false := by simp; omega
          have hcur : nextV a n (k : Int) = (k : Int) := by unfold nextV; (repeat' split) <;> omega
          rw [hcur]
          obtain ⟨z, hz⟩ : ∃ z, wrap64 ((k : Int) + 1) = z := ⟨_, rfl⟩
          have hz2 : nextV a n ((k + 1 : Nat) : Int) = z := by rw [← hz]; unfold nextV wrap64; (repeat' split) <;> omega
          have hpl : placeV m a n (k : Int) = (k : Int) := by unfold placeV; (repeat' split) <;> omega
          have hlen := placesK_len m a n k
          have hhas := HR.out.has (o := k) (by omega)
          have hfz := HR.out.froz k
          obtain ⟨uo, huo⟩ := Option.isSome_iff_exists.1 hhas
          have HS := Lib.hid (rowInt_set HR.out (j := k) (by omega) ((k : Int)))
          have HX2 : Hid (Xt w (wr.setCell ⟨g, k, none⟩ (.int .i64 ((k : Int))))) := HX.out.grownB (setCell_grown _ _ _ _) (fun q hq => by cases hq; have := HGW.out; omega)
          rw [placesK_set (by omega) hpl.symm] at HS
          clear hcur hpl HR HX
          have HZ := Lib.hid hz2
          clear hz2
          try clear heqk
          go_wp2_with fail
          go_roundw
          case rel => exact ⟨k + 1, by omega, by omega, by first | (rw [HZ.out]; done) | (rw [HZ.out, ← hz]; congr 1; unfold wrap64; omega), by go_num, HS, HX2⟩
          case measure => simp [intOf]; omega
        · by_cases heqk : (k : Int) = a
          · have hka : ((k : Int) == a) = true := by simp [heqk]
            by_cases h3 : 0 < n
            · by_cases hnm : (k : Int) + n ≤ m
              · have hn0 : 0 ≤ n := by omega
                have hcur : nextV a n (k : Int) = (k : Int) := by unfold nextV; (repeat' split) <;> omega
                rw [hcur]
                have hadd : wrap64 ((k : Int) + n) = (k : Int) + n := by unfold wrap64; omega
                obtain ⟨z, hz⟩ : ∃ z, wrap64 ((k : Int) + n + 1) = z := ⟨_, rfl⟩
                have hz2 : nextV a n ((k + 1 : Nat) : Int) = z := by rw [← hz]; unfold nextV wrap64; (repeat' split) <;> omega
                have hpl : placeV m a n (k : Int) = (k : Int) + n := by unfold placeV; (repeat' split) <;> omega
                have hlen := placesK_len m a n k
                have hhas := HR.out.has (o := k) (by omega)
                have hfz := HR.out.froz k
                obtain ⟨uo, huo⟩ := Option.isSome_iff_exists.1 hhas
                have HS := Lib.hid (rowInt_set HR.out (j := k) (by omega) ((k : Int) + n))
                have HX2 : Hid (Xt w (wr.setCell ⟨g, k, none⟩ (.int .i64 ((k : Int) + n)))) := HX.out.grownB (setCell_grown _ _ _ _) (fun q hq => by cases hq; have := HGW.out; omega)
                rw [placesK_set (by omega) hpl.symm] at HS
                clear hcur hpl HR HX
                have HZ := Lib.hid hz2
                clear hz2
                try clear heqk
                go_wp2_with fail
                go_roundw
                case rel => exact ⟨k + 1, by omega, by omega, by first | (rw [HZ.out]; done) | (rw [HZ.out, ← hz]; congr 1; unfold wrap64; omega), by go_num, HS, HX2⟩
                case measure => simp [intOf]; omega
              · have h4' : (m : Int) < (k : Int) + n := by omega
                have h4b : ((k : Int) + n ≤ (m : Int)) = False := eq_false hnm
                have hcur : nextV a n (k : Int) = (k : Int) := by unfold nextV; (repeat' split) <;> omega
                rw [hcur]
                have hadd : wrap64 ((k : Int) + n) = (k : Int) + n := by unfold wrap64; omega
                obtain ⟨z, hz⟩ : ∃ z, wrap64 ((k : Int) + n + 1) = z := ⟨_, rfl⟩
                have hz2 : nextV a n ((k + 1 : Nat) : Int) = z := by rw [← hz]; unfold nextV wrap64; (repeat' split) <;> omega
                have hpl : placeV m a n (k : Int) = 0 := by unfold placeV; (repeat' split) <;> omega
                have HS := HR
                rw [placesK_skip hpl] at HS
                have HX2 := HX
                clear hcur hpl HR HX
                have HZ := Lib.hid hz2
                clear hz2
                try clear heqk
                go_wp2_with fail
                go_roundw
                case rel => exact ⟨k + 1, by omega, by omega, by first | (rw [HZ.out]; done) | (rw [HZ.out, ← hz]; congr 1; unfold wrap64; omega), by go_num, HS, HX2⟩
                case measure => simp [intOf]; omega
            · have hcur : nextV a n (k : Int) = (k : Int) := by unfold nextV; (repeat' split) <;> omega
              rw [hcur]
              obtain ⟨z, hz⟩ : ∃ z, wrap64 ((k : Int) + 1) = z := ⟨_, rfl⟩
              have hz2 : nextV a n ((k + 1 : Nat) : Int) = z := by rw [← hz]; unfold nextV wrap64; (repeat' split) <;> omega
              have hpl : placeV m a n (k : Int) = (k : Int) := by unfold placeV; (repeat' split) <;> omega
              have hlen := placesK_len m a n k
              have hhas := HR.out.has (o := k) (by omega)
              have hfz := HR.out.froz k
              obtain ⟨uo, huo⟩ := Option.isSome_iff_exists.1 hhas
              have HS := Lib.hid (rowInt_set HR.out (j := k) (by omega) ((k : Int)))
              have HX2 : Hid (Xt w (wr.setCell ⟨g, k, none⟩ (.int .i64 ((k : Int))))) := HX.out.grownB (setCell_grown _ _ _ _) (fun q hq => by cases hq; have := HGW.out; omega)
              rw [placesK_set (by omega) hpl.symm] at HS
              clear hcur hpl HR HX
              have HZ := Lib.hid hz2
              clear hz2
              try clear heqk
              go_wp2_with fail
              go_roundw
              case rel => exact ⟨k + 1, by omega, by omega, by first | (rw [HZ.out]; done) | (rw [HZ.out, ← hz]; congr 1; unfold wrap64; omega), by go_num, HS, HX2⟩
              case measure => simp [intOf]; omega
          · have hka : ((k : Int) == a) = false := by simp [heqk]
            by_cases hnm : (k : Int) + n ≤ m
            · have hcur : nextV a n (k : Int) = (k : Int) + n := by unfold nextV; (repeat' split) <;> omega
              rw [hcur]
              obtain ⟨z, hz⟩ : ∃ z, wrap64 ((k : Int) + n + 1) = z := ⟨_, rfl⟩
              have hz2 : nextV a n ((k + 1 : Nat) : Int) = z := by rw [← hz]; unfold nextV wrap64; (repeat' split) <;> omega
              have hpl : placeV m a n (k : Int) = (k : Int) + n := by unfold placeV; (repeat' split) <;> omega
              have hlen := placesK_len m a n k
              have hhas := HR.out.has (o := k) (by omega)
              have hfz := HR.out.froz k
              obtain ⟨uo, huo⟩ := Option.isSome_iff_exists.1 hhas
              have HS := Lib.hid (rowInt_set HR.out (j := k) (by omega) ((k : Int) + n))
              have HX2 : Hid (Xt w (wr.setCell ⟨g, k, none⟩ (.int .i64 ((k : Int) + n)))) := HX.out.grownB (setCell_grown _ _ _ _) (fun q hq => by cases hq; have := HGW.out; omega)
              rw [placesK_set (by omega) hpl.symm] at HS
              clear hcur hpl HR HX
              have HZ := Lib.hid hz2
              clear hz2
              try clear heqk
              go_wp2_with fail
              go_roundw
              case rel => exact ⟨k + 1, by omega, by omega, by first | (rw [HZ.out]; done) | (rw [HZ.out, ← hz]; congr 1; unfold wrap64; omega), by go_num, HS, HX2⟩
              case measure => simp [intOf]; omega
            · have h4' : (m : Int) < (k : Int) + n := by omega
              have h4b : ((k : Int) + n ≤ (m : Int)) = False := eq_false hnm
              have hcur : nextV a n (k : Int) = (k : Int) + n := by unfold nextV; (repeat' split) <;> omega
              rw [hcur]
              obtain ⟨z, hz⟩ : ∃ z, wrap64 ((k : Int) + n + 1) = z := ⟨_, rfl⟩
              have hz2 : nextV a n ((k + 1 : Nat) : Int) = z := by rw [← hz]; unfold nextV wrap64; (repeat' split) <;> omega
              have hpl : placeV m a n (k : Int) = 0 := by unfold placeV; (repeat' split) <;> omega
              have HS := HR
              rw [placesK_skip hpl] at HS
              have HX2 := HX
              clear hcur hpl HR HX
              have HZ := Lib.hid hz2
              clear hz2
              try clear heqk
              go_wp2_with fail
              go_roundw
              case rel => exact ⟨k + 1, by omega, by omega, by first | (rw [HZ.out]; done) | (rw [HZ.out, ← hz]; congr 1; unfold wrap64; omega), by go_num, HS, HX2⟩
              case measure => simp [intOf]; omega
    · obtain rfl : k = m + 1 := by omega
      go_wp2_with fail
      go_ret
      exact ⟨g, rfl, HR.out, by have := HGW.out; omega, HX.out⟩
    -- ENDROUND
end Go.Proofs.YtlgkaipgdhcajaaGreatDoor
/- quadrilleref22: how many lines there may be; a span; what is lost. -/
namespace Go.Proofs.YtlgkaipgdhcajaaGreatDoor
open Go.RowKit Go.Sort

def manyI (cols : Bool) : Int := if cols then 256 else 4096
set_option maxRecDepth 100000 in
set_option maxHeartbeats 2000000 in
theorem many22_any (cols : Bool) (a n : Int) (w : World) : Calls Tryz.prog 38 #[.bool cols, .int .i64 a, .int .i64 n] w fun e w' => e = .returned (.tuple #[.int .i64 (manyI cols), .bool (madeL (manyI cols) a n).2]) ∧ w = w' := by
  have neg1 := neg_4096
  have neg2 := neg_256
  cases cols
  · unfold madeL manyI
    by_cases h1 : 1 ≤ a
    · by_cases h2 : a ≤ 4096
      · by_cases h3 : -4096 ≤ n
        · have h3' : IntKind.i64.wrap (-4096) ≤ n := by rw [neg1]; exact h3
          by_cases h4 : n ≤ 4096
          · go_enter Tryz.func38, Tryz.ntmps38
            go_wp2_with fail
            go_ret2
            exact ⟨by simp, rfl⟩
          · go_enter Tryz.func38, Tryz.ntmps38
            go_wp2_with fail
            go_ret2
            exact ⟨by simp [h4], rfl⟩
        · have h3' : ¬ IntKind.i64.wrap (-4096) ≤ n := by rw [neg1]; exact h3
          go_enter Tryz.func38, Tryz.ntmps38
          go_wp2_with fail
          go_ret2
          exact ⟨by simp <;> (intros; omega), rfl⟩
      · go_enter Tryz.func38, Tryz.ntmps38
        go_wp2_with fail
        go_ret2
        exact ⟨by simp <;> (intros; omega), rfl⟩
    · go_enter Tryz.func38, Tryz.ntmps38
      go_wp2_with fail
      go_ret2
      exact ⟨by simp <;> (intros; omega), rfl⟩
  · unfold madeL manyI
    by_cases h1 : 1 ≤ a
    · by_cases h2 : a ≤ 256
      · by_cases h3 : -256 ≤ n
        · have h3' : IntKind.i64.wrap (-256) ≤ n := by rw [neg2]; exact h3
          by_cases h4 : n ≤ 256
          · go_enter Tryz.func38, Tryz.ntmps38
            go_wp2_with fail
            go_ret2
            exact ⟨by simp, rfl⟩
          · go_enter Tryz.func38, Tryz.ntmps38
            go_wp2_with fail
            go_ret2
            exact ⟨by simp [h4], rfl⟩
        · have h3' : ¬ IntKind.i64.wrap (-256) ≤ n := by rw [neg2]; exact h3
          go_enter Tryz.func38, Tryz.ntmps38
          go_wp2_with fail
          go_ret2
          exact ⟨by simp <;> (intros; omega), rfl⟩
      · go_enter Tryz.func38, Tryz.ntmps38
        go_wp2_with fail
        go_ret2
        exact ⟨by simp <;> (intros; omega), rfl⟩
    · go_enter Tryz.func38, Tryz.ntmps38
      go_wp2_with fail
      go_ret2
      exact ⟨by simp <;> (intros; omega), rfl⟩
/-! ### the table tells what a line is -/
theorem line_place {m : Nat} {a n k : Int} (hm : m ≤ 4096) (ha : 1 ≤ a ∧ a ≤ m) (hn : -(m : Int) ≤ n ∧ n ≤ m) (hk : 1 ≤ k ∧ k ≤ m) : (lineF ⟨a, n, m⟩ k).2 = decide (0 < placeV m a n k) ∧ ((lineF ⟨a, n, m⟩ k).2 = true → (lineF ⟨a, n, m⟩ k).1 = placeV m a n k) := by
  have w1 : wrap64 (k + n) = k + n := by unfold wrap64; omega
  have w2 : wrap64 (a - n) = a - n := by unfold wrap64; omega
  unfold lineF placeV
  simp only [w1, w2]
  rw [if_neg (by omega : ¬ k < 1)]
  by_cases h1 : k < a
  · rw [if_pos h1, if_pos h1]; simp; omega
  · rw [if_neg h1, if_neg h1]
    by_cases h2 : 0 ≤ n
    · rw [if_pos h2, if_pos h2]
      by_cases h3 : k + n ≤ m
      · rw [if_pos h3]; simp [h3]; omega
      · rw [if_neg h3]; simp [h3]
    · rw [if_neg h2, if_neg h2]
      by_cases h3 : k < a - n
      · rw [if_pos h3]; simp; omega
      · rw [if_neg h3]; simp; omega
theorem place_ge (m : Nat) (a n k : Int) (ha : 1 ≤ a) : 0 ≤ placeV m a n k := by
  unfold placeV; (repeat' split) <;> omega
/-- A cell of the table. -/
theorem rowInt_at {w : World} {g m : Nat} {a n : Int} (h : RowL w g 3 (m + 1) 1 intC (placesL m a n)) {k : Int} (h0 : 0 ≤ k) (hk : k ≤ m) : ∃ j : Nat, (j : Int) = k ∧ j < m + 1 ∧ w.cell? ⟨g, j, none⟩ = some (.int .i64 (placeV m a n k)) := by
  refine ⟨k.toNat, by omega, by omega, ?_⟩
  have := h.cell (placesL_at (m := m) (a := a) (n := n) (k := k.toNat) (by omega)) 0 _ rfl
  have e : ((k.toNat : Nat) : Int) = k := by omega
  simpa [e] using this
set_option maxRecDepth 100000 in
set_option maxHeartbeats 4000000 in
theorem span22_any (m g : Nat) (a n f t : Int) (w : World) (hm : m ≤ 4096) (ha : 1 ≤ a ∧ a ≤ m) (hn : -(m : Int) ≤ n ∧ n ≤ m) (hrow : RowL w g 3 (m + 1) 1 intC (placesL m a n)) (hf : 1 ≤ f) (ht : t ≤ m) :
    Calls Tryz.prog 78 #[.slice (some ⟨g, 0, none⟩) (m + 1) (m + 1), .int .i64 f, .int .i64 t] w fun e w' => e = .returned (.tuple #[.int .i64 (spanF ⟨a, n, m⟩ f t).1, .int .i64 (spanF ⟨a, n, m⟩ f t).2.1, .bool (spanF ⟨a, n, m⟩ f t).2.2]) ∧ w = w' := by
  have HRW := Lib.hid hrow
  unfold spanF
  obtain ⟨r, hr0⟩ : ∃ r, spanG ⟨a, n, m⟩ (t - f + 1).toNat f 0 0 = r := ⟨_, rfl⟩
  have HR := Lib.hid hr0
  rw [hr0]
  have HA := Lib.hid ha
  have HN := Lib.hid hn
  clear hr0 hrow ha hn
  go_enter Tryz.func78, Tryz.ntmps78
  go_wp2_with fail
  go_loopw [9, 10, 11] (fun s9 s10 s11 wr => ∃ k x y : Int, 1 ≤ k ∧ s11 = .int .i64 k ∧ s9 = .int .i64 x ∧ s10 = .int .i64 y ∧ Hid (spanG ⟨a, n, m⟩ (t - k + 1).toNat k x y = r) ∧ w = wr) (fun _ _ s11 _ => (t + 1 - intOf s11).toNat)
  case atStart => exact ⟨f, 0, 0, hf, rfl, rfl, rfl, HR, rfl⟩
  case round =>
    obtain ⟨k, x, y, hk, rfl, rfl, rfl, HS, rfl⟩ := hrel
    by_cases hlt : k ≤ t
    · have hst := HS.out
      rw [spanG_step hlt] at hst
      obtain ⟨l1, l2⟩ := line_place hm HA.out HN.out (k := k) ⟨hk, by omega⟩
      obtain ⟨j, hj, hjm, hcell⟩ := rowInt_at HRW.out (k := k) (by omega) (by omega)
      rw [l1] at hst l2
      obtain ⟨v, hv⟩ : ∃ v, placeV m a n k = v := ⟨_, rfl⟩
      rw [hv] at hst l2 hcell
      have hadd : wrap64 (k + 1) = k + 1 := by unfold wrap64; omega
      have hjl : j < m + 1 := hjm
      subst hj
      by_cases hv0 : 0 < v
      · rw [if_pos (by simpa using hv0), l2 (by simpa using hv0)] at hst
        have HST := Lib.hid hst
        clear hst l1 l2 hv
        by_cases hx : x = 0
        · subst hx
          have HN2 : Hid (spanG ⟨a, n, m⟩ (t - ((j : Int) + 1) + 1).toNat ((j : Int) + 1) v v = r) := by have h := HST.out; unfold Hid; simpa using h
          go_wp2_with fail
          go_roundw
          case rel => exact ⟨(j : Int) + 1, v, v, by omega, by go_num, rfl, rfl, HN2, trivial⟩
          case measure => simp [intOf]; omega
        · have hxb : (x == 0) = false := by simpa using hx
          have HN2 : Hid (spanG ⟨a, n, m⟩ (t - ((j : Int) + 1) + 1).toNat ((j : Int) + 1) x v = r) := by have h := HST.out; unfold Hid; simpa [hx] using h
          go_wp2_with fail
          go_roundw
          case rel => exact ⟨(j : Int) + 1, x, v, by omega, by go_num, rfl, rfl, HN2, trivial⟩
          case measure => simp [intOf]; omega
      · rw [if_neg (by simpa using hv0)] at hst
        have HST := Lib.hid hst
        clear hst l1 l2 hv
        go_wp2_with fail
        go_roundw
        case rel => exact ⟨(j : Int) + 1, x, y, by omega, by go_num, rfl, rfl, HST, trivial⟩
        case measure => simp [intOf]; omega
    · have hE := HS.out
      rw [spanG_end (by omega)] at hE
      have HE := Lib.hid hE
      clear hE
      go_wp2_with fail
      refine bodyPost_ret (v := .tuple #[.int .i64 x, .int .i64 y, .bool (decide (0 < x))]) (by simp [results]) rfl ?_
      exact ⟨by rw [← HE.out], rfl⟩
end Go.Proofs.YtlgkaipgdhcajaaGreatDoor
/- move, plain: what goes a road and is copied. -/
namespace Go.Proofs.YtlgkaipgdhcajaaGreatDoor
open Go.RowKit Go.Sort

theorem copyT_lost : copyT lostT = lostT := by
  have h : oneX 0 = 0 := (oneX_zero 0).2 rfl
  simp only [lostT, copyT, copyL, h]
theorem turnH_copy (cG : Ad → Ad × Bool) (aG : ArT → ArT × Bool) (k o : Int) (x : Nat) (s : ByteArray) (b : Bool) (f : Int) (r q : RefT) (l : List NodeT) : turnH cG aG (.mk k o (oneX x) s b f r q (copyL l)) = copyT (turnH cG aG (.mk k o x s b f r q l)) := by
  rw [turnH, turnH]
  by_cases h5 : k = 5
  · rw [if_pos h5, if_pos h5]
    by_cases h : (cG r.a).2 = true
    · rw [if_pos h, if_pos h]; rfl
    · rw [if_neg h, if_neg h, copyT_lost]
  · rw [if_neg h5, if_neg h5]
    by_cases h6 : k = 6
    · rw [if_pos h6, if_pos h6]
      by_cases h : (aG (arOf r q)).2 = true
      · rw [if_pos h, if_pos h]; rfl
      · rw [if_neg h, if_neg h, copyT_lost]
    · rw [if_neg h6, if_neg h6]; rfl
mutual
theorem turn_copy (cG : Ad → Ad × Bool) (aG : ArT → ArT × Bool) : ∀ t : NodeT, turnT cG aG (copyT t) = copyT (turnT cG aG t)
  | .mk k o x s b f r q l => by
    rw [copyT, turnT, turnT, turnL_copy cG aG l, turnH_copy]
theorem turnL_copy (cG : Ad → Ad × Bool) (aG : ArT → ArT × Bool) : ∀ l : List NodeT, turnL cG aG (copyL l) = copyL (turnL cG aG l)
  | [] => rfl
  | t :: l => by rw [copyL, turnL, turnL, copyL, turn_copy cG aG t, turnL_copy cG aG l]
end
/-- As the document has it: nothing is copied. -/
def formD (cols : Bool) (at_ cnt : Int) (t : NodeT) : NodeT × Int :=
  if checkT t ≠ 0 then (zeroN, checkT t) else if (madeL (manyI cols) at_ cnt).2 = false then (zeroN, 1) else (turnT (cellF cols ⟨at_, cnt, manyI cols⟩) (areaF cols ⟨at_, cnt, manyI cols⟩) t, 0)
theorem form_same (cols : Bool) (at_ cnt : Int) (t : NodeT) : (formP cols at_ cnt t).2 = (formD cols at_ cnt t).2 ∧ copyT (formP cols at_ cnt t).1 = copyT (formD cols at_ cnt t).1 := by
  have e : manyL cols = manyI cols := rfl
  unfold formP formD
  rw [e]
  split
  · exact ⟨rfl, rfl⟩
  · split
    · exact ⟨rfl, rfl⟩
    · exact ⟨rfl, by rw [turn_copy, copyT_idem]⟩
end Go.Proofs.YtlgkaipgdhcajaaGreatDoor
/- The document's Finite, and a number's bits. -/
namespace Go.Proofs.YtlgkaipgdhcajaaGreatDoor
open Go.RowKit Go.Sort

def nanX (x : Nat) : Bool := decide (9218868437227405312 < x % 9223372036854775808)
theorem compare_self (i : Int) : compare i i = Ordering.eq := Int.compare_eq_eq.2 rfl
theorem order_self (x : Nat) : ((FloatKind.format .f64).order x x != some .eq) = nanX x := by
  have e : (FloatKind.format .f64).signWeight = 9223372036854775808 := by decide
  have e2 : (FloatKind.format .f64).infRung = 9218868437227405312 := by decide
  have e3 : (FloatKind.format .f64).binade ≤ 9218868437227405312 := by decide
  unfold Ieee.Format.order Ieee.Format.read nanX
  simp only [e, e2]
  generalize x % 9223372036854775808 = r
  by_cases h1 : r < (FloatKind.format .f64).binade
  · rw [if_pos h1]
    simp only [Ieee.Datum.order, compare_self]
    have : ¬ 9218868437227405312 < r := by omega
    simp [this]
  · rw [if_neg h1]
    by_cases h2 : r < 9218868437227405312
    · rw [if_pos h2]
      simp only [Ieee.Datum.order, compare_self]
      have : ¬ 9218868437227405312 < r := by omega
      simp [this]
    · rw [if_neg h2]
      by_cases h3 : r = 9218868437227405312
      · rw [if_pos h3]
        have : ¬ 9218868437227405312 < r := by omega
        simp [this, Ieee.Datum.order]
      · rw [if_neg h3]
        have : 9218868437227405312 < r := by omega
        simp [this, Ieee.Datum.order]
theorem oneX_eq (x : Nat) : oneX x = if nanX x = true then 9221120237041090560 else x := by
  unfold oneX; rw [order_self]
theorem andNot_sign (x : Nat) : bits .andNot .u64 (x : Int) 9223372036854775808 = ((x % 9223372036854775808 : Nat) : Int) := by
  show IntKind.u64.wrap ((BitVec.ofInt 64 (x : Int) &&& ~~~BitVec.ofInt 64 9223372036854775808).toNat : Int) = _
  have h1 : (~~~BitVec.ofInt 64 9223372036854775808).toNat = 2 ^ 63 - 1 := by decide
  have h2 : (BitVec.ofInt 64 (x : Int)).toNat = x % 18446744073709551616 := by
    rw [BitVec.ofInt_natCast, BitVec.toNat_ofNat]
  rw [BitVec.toNat_and, h1, h2, Nat.and_two_pow_sub_one_eq_mod, IntKind.wrap_u64]
  omega
theorem finite01_any (x : Nat) (w : World) : Calls Tryz.prog 127 #[.int .u64 x] w fun e w' => e = .returned (.bool (decide (x % 9223372036854775808 < 9218868437227405312))) ∧ w = w' := by
  have h := Lib.hid (andNot_sign x)
  go_enter Tryz.func127, Tryz.ntmps127
  go_wp2
  go_ret
  refine ⟨?_, rfl⟩
  rw [h.out]
  show Ending.returned (Value.bool _) = _
  exact congrArg (fun b => Ending.returned (Value.bool b)) (decide_eq_decide.2 (by omega))
end Go.Proofs.YtlgkaipgdhcajaaGreatDoor
/- A round of a copy: what is pushed. -/
namespace Go.Proofs.YtlgkaipgdhcajaaGreatDoor
open Go.RowKit Go.Sort

/-- A round's push, with all that the region asks on its way. -/
theorem grow_step {w ws wr w6 : World} {M n n' i b off cap xc : Nat} {g : NodeT → NodeT} {t t2 x : NodeT} {l : List NodeT} {va a' xa : Option Addr} {vn vc c' : Nat} (hn : n = n' + 1) (h : GSt w ws (w.heap.size + 1 + 1) M g n t2 l wr i va vn vc) (hx : l[i]? = some x) (hl : l.length ≤ 1099511627744)
    (hN14 : wr.cell? ⟨w.heap.size, 14, none⟩ = some (.slice (some ⟨b, off, none⟩) t.args.length cap)) (hNx : NodeAt wr b (off + i * 15) x xa x.args.length xc) (hb : b < w.heap.size)
    (hAS : OwnIn (fun b => wr.drew.heap.size ≤ b) w6 n' (.slice a' (g x).args.length c') (g x).args) (h6 : Xt wr.drew w6) :
    ∃ wA, w6.alloc (.cells #[.int .i64 (g x).kind, .int .i64 (g x).op, .float .f64 (g x).x, .string (g x).s, .bool (g x).b, .int .i64 (g x).f, .int .i64 (g x).ref.a.1, .int .i64 (g x).ref.a.2, .bool (g x).ref.cf, .bool (g x).ref.rf, .int .i64 (g x).to.a.1, .int .i64 (g x).to.a.2, .bool (g x).to.cf, .bool (g x).to.rf, .slice a' (g x).args.length c'] 29) = wA ∧
    ∃ va' vn' vc' w7, (Builtin.append_ #[27, 27] 27 #[.slice va vn vc, .slice (some ⟨w6.heap.size, 0, none⟩) 1 1]).run Tryz.prog wA = .ok (.slice va' vn' vc') w7 ∧ w6.cell? ⟨w.heap.size + 1 + 1, 14, none⟩ = some (.slice va vn vc) ∧ wA.cell? ⟨w.heap.size + 1 + 1, 14, none⟩ = some (.slice va vn vc) ∧ w7.cell? ⟨w.heap.size + 1 + 1, 14, none⟩ = some (.slice va vn vc) ∧ w7.frozen? ⟨w.heap.size + 1 + 1, 14, none⟩ = false ∧
      Hid (w6.cell? ⟨w.heap.size, 14, none⟩ = some (.slice (some ⟨b, off, none⟩) t.args.length cap) ∧ NodeAt w6 b (off + i * 15) x xa x.args.length xc) ∧ Hid (wA.cell? ⟨w.heap.size, 14, none⟩ = some (.slice (some ⟨b, off, none⟩) t.args.length cap) ∧ NodeAt wA b (off + i * 15) x xa x.args.length xc) ∧ Hid (w7.cell? ⟨w.heap.size, 14, none⟩ = some (.slice (some ⟨b, off, none⟩) t.args.length cap) ∧ NodeAt w7 b (off + i * 15) x xa x.args.length xc) ∧
      Hid ((w7.setCell ⟨w.heap.size + 1 + 1, 14, none⟩ (.slice va' vn' vc')).cell? ⟨w.heap.size, 14, none⟩ = some (.slice (some ⟨b, off, none⟩) t.args.length cap) ∧ NodeAt (w7.setCell ⟨w.heap.size + 1 + 1, 14, none⟩ (.slice va' vn' vc')) b (off + i * 15) x xa x.args.length xc) ∧
      Hid (GSt w ws (w.heap.size + 1 + 1) M g n t2 l (w7.setCell ⟨w.heap.size + 1 + 1, 14, none⟩ (.slice va' vn' vc')) (i + 1) va' vn' vc') := by
  refine ⟨_, rfl, ?_⟩
  obtain ⟨va', vn', vc', w7, q1, ⟨q6, q7, q8⟩, q9, q10, _, q11⟩ := grow_push hn h hx hl ((Xt.refl wr).drew.trans h6) hAS _ rfl
  have hlo := h.lo
  have hb2 : b < wr.heap.size := by omega
  have hn2 : w.heap.size < wr.heap.size := by omega
  obtain ⟨x6, xA, x7, x8⟩ := q10 b hb2 (Or.inr hb)
  obtain ⟨y6, yA, y7, y8⟩ := q10 w.heap.size hn2 (Or.inl ⟨by omega, by omega⟩)
  have hc : ∀ {u : World} {k o : Nat}, u.heap[k]? = wr.heap[k]? → u.cell? ⟨k, o, none⟩ = wr.cell? ⟨k, o, none⟩ := fun {u k o} e => World.cell?_of_block (w := wr) (a := ⟨k, o, none⟩) e
  exact ⟨va', vn', vc', w7, q1, q6, q7, q8, q9, ⟨(hc y6).trans hN14, hNx.keep (fun o => hc x6)⟩, ⟨(hc yA).trans hN14, hNx.keep (fun o => hc xA)⟩, ⟨(hc y7).trans hN14, hNx.keep (fun o => hc x7)⟩, ⟨(hc y8).trans hN14, hNx.keep (fun o => hc x8)⟩, q11⟩
end Go.Proofs.YtlgkaipgdhcajaaGreatDoor
