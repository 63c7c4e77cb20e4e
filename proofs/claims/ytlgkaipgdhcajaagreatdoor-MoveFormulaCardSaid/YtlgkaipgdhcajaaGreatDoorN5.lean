/- quadrilleref22.Formula (made by mkn5.py). -/
import Derived.Test.YtlgkaipgdhcajaaGreatDoorA13
import Derived.Test.YtlgkaipgdhcajaaGreatDoorN4
import Derived.Test.YtlgkaipgdhcajaaGreatDoorV12a
namespace Go.Proofs.YtlgkaipgdhcajaaGreatDoor
open Go.RowKit Go.Sort

def OutO (r : NodeT) (code : Int) (w : World) (e : Ending) (w' : World) : Prop :=
  ∃ a2 c2 n', e = .returned (.tuple #[nodeV r a2 r.args.length c2, .int .i64 code]) ∧ OwnIn (fun b => w.heap.size ≤ b) w' n' (.slice a2 r.args.length c2) r.args ∧ Xt w w'
set_option maxRecDepth 100000 in
set_option maxHeartbeats 1000000 in
theorem formula22_any (n : Nat) (t : NodeT) (a : Option Addr) (cap : Nat) (cols : Bool) (at_ cnt : Int) (w : World) (hok : t.ok) (hsm : smallT t) (hin : ArgsIn w n (.slice a t.args.length cap) t.args) :
    Calls Tryz.prog 9 #[nodeV t a t.args.length cap, .bool cols, .int .i64 at_, .int .i64 cnt] w (OutO (formD cols at_ cnt t).1 (formD cols at_ cnt t).2 w) := by
  obtain ⟨B, hB⟩ : ∃ B, w.heap.size = B := ⟨_, rfl⟩
  have HBw := Lib.hid hB
  obtain ⟨w0, hw0⟩ : ∃ w0, w.alloc (.cells #[.int .i64 t.kind, .int .i64 t.op, .float .f64 t.x, .string t.s, .bool t.b, .int .i64 t.f, .int .i64 t.ref.a.1, .int .i64 t.ref.a.2, .bool t.ref.cf, .bool t.ref.rf, .int .i64 t.to.a.1, .int .i64 t.to.a.2, .bool t.to.cf, .bool t.to.rf, .slice a t.args.length cap] 29) = w0 := ⟨_, rfl⟩
  have hs0 : w0.heap.size = B + 1 := by rw [← hw0, ← hB]; simp
  obtain ⟨w1, hw1⟩ : ∃ w1, w0.alloc (.cells #[.int .i64 0, .int .i64 0, .float .f64 0, .string ⟨#[]⟩, .bool false, .int .i64 0, .int .i64 0, .int .i64 0, .bool false, .bool false, .int .i64 0, .int .i64 0, .bool false, .bool false, .slice none 0 0] 29) = w1 := ⟨_, rfl⟩
  have hs1 : w1.heap.size = B + 1 + 1 := by rw [← hw1]; simp [hs0]
  have hx1 : Xt w w1 := by rw [← hw1, ← hw0]; exact ((Xt.refl _).alloc _).alloc _
  have r0 : w1.heap[B]? = some (.cells #[.int .i64 t.kind, .int .i64 t.op, .float .f64 t.x, .string t.s, .bool t.b, .int .i64 t.f, .int .i64 t.ref.a.1, .int .i64 t.ref.a.2, .bool t.ref.cf, .bool t.ref.rf, .int .i64 t.to.a.1, .int .i64 t.to.a.2, .bool t.to.cf, .bool t.to.rf, .slice a t.args.length cap] 29 (0, 0)) := rowX (w := w0) (by rw [← hw1]; exact (Xt.refl _).alloc _) (by rw [← hw0, ← hB]; exact (MapKept.heap_alloc w _).1)
  have r1 : w1.heap[B + 1]? = some (.cells #[.int .i64 0, .int .i64 0, .float .f64 0, .string ⟨#[]⟩, .bool false, .int .i64 0, .int .i64 0, .int .i64 0, .bool false, .bool false, .int .i64 0, .int .i64 0, .bool false, .bool false, .slice none 0 0] 29 (0, 0)) := by rw [← hw1, ← hs0]; exact (MapKept.heap_alloc w0 _).1
  have HX1 := Lib.hid hx1
  have HR0 := Lib.hid r0
  have HR1 := Lib.hid r1
  have HSM := Lib.hid hsm
  have HIN := Lib.hid hin
  have HCH := Lib.hid (Check12_any n t a cap w1 hok (hin.xt hx1))
  have HM := Lib.hid (many22_any cols at_ cnt)
  obtain ⟨ok, hmk⟩ : ∃ ok, (madeL (manyI cols) at_ cnt).2 = ok := ⟨_, rfl⟩
  simp only [hmk] at HM
  have HMK := Lib.hid hmk
  obtain ⟨k, hk⟩ : ∃ k, checkT t = k := ⟨_, rfl⟩
  rw [hk] at HCH
  have HK := Lib.hid hk
  clear hok hsm hin hx1 r0 r1 hmk hk
  go_enter Tryz.func9, Tryz.ntmps9
  by_cases hk0 : k = 0
  rotate_left
  · have hkb : (k != 0) = true := by simpa using hk0
    go_wp2_with (first
      | (refine wpList_load_row (P := Tryz.prog) rfl 29 _ rfl B rfl 29 _ (0, 0) _ HR0.out Tryz.underlying29 rfl (by kernel_rfl) ?_)
      | (go_at_call 37; refine (HCH.out).mono ?_; rintro e w2 ⟨rfl, hx2⟩; have HX2 := Lib.hid hx2.xt; clear hx2)
      | (refine wpList_store_row (P := Tryz.prog) rfl 29 _ _ rfl (B + 1) #[.int .i64 0, .int .i64 0, .float .f64 0, .string ⟨#[]⟩, .bool false, .int .i64 0, .int .i64 0, .int .i64 0, .bool false, .bool false, .int .i64 0, .int .i64 0, .bool false, .bool false, .slice none 0 0] rfl rfl 29 _ (rowX HX2.out HR1.out) (by kernel_rfl) (by kernel_rfl) (all15 zeroN none 0 0) ?_))
    (try simp only [Exit.inBlock, Exit.then])
    refine bodyPost_ret (v := .tuple #[.agg #[.int .i64 0, .int .i64 0, .float .f64 0, .string ⟨#[]⟩, .bool false, .int .i64 0, .int .i64 0, .int .i64 0, .bool false, .bool false, .int .i64 0, .int .i64 0, .bool false, .bool false, .slice none 0 0], .int .i64 k]) ?_ rfl ?_
    · rw [results_cell_tmp rfl]
      show ((asAddr (.pointer (some ⟨B + 1, 0, none⟩))).run _ _).andThen _ = _
      simp only [asAddr, Sem.run_pure, Result.andThen_ok, run_loadVar_row _ _ _ 29 #[.int .i64 0, .int .i64 0, .float .f64 0, .string ⟨#[]⟩, .bool false, .int .i64 0, .int .i64 0, .int .i64 0, .bool false, .bool false, .int .i64 0, .int .i64 0, .bool false, .bool false, .slice none 0 0] _ _ (setRow_heap _ _ _ _ _ _ (rowX HX2.out HR1.out)) Tryz.underlying29 rfl (by kernel_rfl)]
      rfl
    · have hP : formD cols at_ cnt t = (zeroN, k) := by unfold formD; rw [if_pos (by rw [HK.out]; exact hk0), HK.out]
      rw [hP]
      exact ⟨none, 0, 0, rfl, ⟨rfl, none, rfl⟩, (HX1.out.trans HX2.out).grownB (setRow_grown _ _ _) (fun q hq => by cases hq; have := HBw.out; omega)⟩
  subst hk0
  cases ok
  · go_wp2_with (first
      | (refine wpList_load_row (P := Tryz.prog) rfl 29 _ rfl B rfl 29 _ (0, 0) _ HR0.out Tryz.underlying29 rfl (by kernel_rfl) ?_)
      | (go_at_call 37; refine (HCH.out).mono ?_; rintro e w2 ⟨rfl, hx2⟩; have HX2 := Lib.hid hx2.xt; clear hx2)
      | (go_at_call 38; refine (HM.out _).mono ?_; rintro e w3 ⟨rfl, rfl⟩)
      | (refine wpList_store_row (P := Tryz.prog) rfl 29 _ _ rfl (B + 1) #[.int .i64 0, .int .i64 0, .float .f64 0, .string ⟨#[]⟩, .bool false, .int .i64 0, .int .i64 0, .int .i64 0, .bool false, .bool false, .int .i64 0, .int .i64 0, .bool false, .bool false, .slice none 0 0] rfl rfl 29 _ (rowX HX2.out HR1.out) (by kernel_rfl) (by kernel_rfl) (all15 zeroN none 0 0) ?_))
    (try simp only [Exit.inBlock, Exit.then])
    refine bodyPost_ret (v := .tuple #[.agg #[.int .i64 0, .int .i64 0, .float .f64 0, .string ⟨#[]⟩, .bool false, .int .i64 0, .int .i64 0, .int .i64 0, .bool false, .bool false, .int .i64 0, .int .i64 0, .bool false, .bool false, .slice none 0 0], .int .i64 1]) ?_ rfl ?_
    · rw [results_cell_tmp rfl]
      show ((asAddr (.pointer (some ⟨B + 1, 0, none⟩))).run _ _).andThen _ = _
      simp only [asAddr, Sem.run_pure, Result.andThen_ok, run_loadVar_row _ _ _ 29 #[.int .i64 0, .int .i64 0, .float .f64 0, .string ⟨#[]⟩, .bool false, .int .i64 0, .int .i64 0, .int .i64 0, .bool false, .bool false, .int .i64 0, .int .i64 0, .bool false, .bool false, .slice none 0 0] _ _ (setRow_heap _ _ _ _ _ _ (rowX HX2.out HR1.out)) Tryz.underlying29 rfl (by kernel_rfl)]
      rfl
    · have hP : formD cols at_ cnt t = (zeroN, 1) := by unfold formD; rw [if_neg (by rw [HK.out]; simp), if_pos HMK.out]
      rw [hP]
      exact ⟨none, 0, 0, rfl, ⟨rfl, none, rfl⟩, (HX1.out.trans HX2.out).grownB (setRow_grown _ _ _) (fun q hq => by cases hq; have := HBw.out; omega)⟩
  · obtain ⟨m, hm, hmI⟩ : ∃ m : Nat, m ≤ 4096 ∧ (m : Int) = manyI cols := ⟨if cols then 256 else 4096, by split <;> omega, by cases cols <;> rfl⟩
    have hMM := HMK.out
    unfold madeL at hMM
    rw [← hmI] at hMM HM HMK
    simp only [Bool.and_eq_true, decide_eq_true_eq] at hMM
    have HMM := Lib.hid hMM
    clear hMM
    go_wp2_with (first
      | (refine wpList_load_row (P := Tryz.prog) rfl 29 _ rfl B rfl 29 _ (0, 0) _ HR0.out Tryz.underlying29 rfl (by kernel_rfl) ?_)
      | (go_at_call 37; refine (HCH.out).mono ?_; rintro e w2 ⟨rfl, hx2⟩; have HX2 := Lib.hid hx2.xt; clear hx2)
      | (go_at_call 38; refine (HM.out _).mono ?_; rintro e w3 ⟨rfl, rfl⟩))
    have HF : Hid (∀ V, Wr (fun b => b = B + 1) w2 V → V.heap[B]? = some (.cells #[.int .i64 t.kind, .int .i64 t.op, .float .f64 t.x, .string t.s, .bool t.b, .int .i64 t.f, .int .i64 t.ref.a.1, .int .i64 t.ref.a.2, .bool t.ref.cf, .bool t.ref.rf, .int .i64 t.to.a.1, .int .i64 t.to.a.2, .bool t.to.cf, .bool t.to.rf, .slice a t.args.length cap] 29 (0, 0))) := Lib.hid fun V hV => by
      have hb := rowX HX2.out HR0.out
      exact (hV.block B (Array.getElem?_eq_some_iff.1 hb).1 (by omega)).trans hb
    refine wp_region_held_drew (S := fun V => Wr (fun b => b = B + 1) w2 V) (by kernel_rfl) (Wr.of_xt (Xt.refl w2).drew) (fun hHeld => ?_)
    refine wpAnyH_take (i := 0) (oi := _) (v := .agg #[.int .i64 t.kind, .int .i64 t.op, .float .f64 t.x, .string t.s, .bool t.b, .int .i64 t.f, .int .i64 t.ref.a.1, .int .i64 t.ref.a.2, .bool t.ref.cf, .bool t.ref.rf, .int .i64 t.to.a.1, .int .i64 t.to.a.2, .bool t.to.cf, .bool t.to.rf, .slice a t.args.length cap]) rfl (by kernel_rfl) (by kernel_rfl) (by kernel_rfl) (fun _ _ _ h => h) (Or.inl ⟨by rfl, ?_⟩) (by assumption) ?_
    · intro V hSw; exact exec_load_row 29 _ (by rfl) B (by rfl) 29 _ _ _ (HF.out V hSw) Tryz.underlying29 rfl (by kernel_rfl)
    try simp only [Act.put, List.getElem_toArray, List.getElem_cons_zero, List.setIfInBounds_toArray, List.set_cons_zero, List.set_cons_succ]
    refine wpAnyH_take (i := 1) (oi := _) (v := ?_) rfl (by kernel_rfl) (by kernel_rfl) (by kernel_rfl) (fun _ _ _ h => h) (Or.inl ⟨by rfl, ?_⟩) (by assumption) ?_
    rotate_left
    · intro V hSw; go_simp; first | done | with_reducible rfl
    try simp only [Act.put, List.getElem_toArray, List.getElem_cons_zero, List.getElem_cons_succ, List.setIfInBounds_toArray, List.set_cons_zero, List.set_cons_succ]
    refine wpAnyH_take (i := 2) (oi := _) (v := ?_) rfl (by kernel_rfl) (by kernel_rfl) (by kernel_rfl) (fun _ _ _ h => h) (Or.inl ⟨by rfl, ?_⟩) (by assumption) ?_
    rotate_left
    · intro V hSw; go_simp; first | done | with_reducible rfl
    try simp only [Act.put, List.getElem_toArray, List.getElem_cons_zero, List.getElem_cons_succ, List.setIfInBounds_toArray, List.set_cons_zero, List.set_cons_succ]
    refine wpAnyH_take (i := 3) (oi := _) (v := ?_) rfl (by kernel_rfl) (by kernel_rfl) (by kernel_rfl) (fun _ _ _ h => h) (Or.inl ⟨by rfl, ?_⟩) (by assumption) ?_
    rotate_left
    · intro V hSw; go_simp; first | done | with_reducible rfl
    try simp only [Act.put, List.getElem_toArray, List.getElem_cons_zero, List.getElem_cons_succ, List.setIfInBounds_toArray, List.set_cons_zero, List.set_cons_succ]
    refine wpAnyH_take (i := 4) (oi := _) (v := ?_) rfl (by kernel_rfl) (by kernel_rfl) (by kernel_rfl) (fun _ _ _ h => h) (Or.inl ⟨by rfl, ?_⟩) (by assumption) ?_
    rotate_left
    · intro V hSw; go_simp; first | done | with_reducible rfl
    try simp only [Act.put, List.getElem_toArray, List.getElem_cons_zero, List.getElem_cons_succ, List.setIfInBounds_toArray, List.set_cons_zero, List.set_cons_succ]
    refine wpAnyH_ready (rs := [5]) (by kernel_rfl) (by simp) ?_
    refine AllReadyH.cons (o := _) rfl (fun K hK => ?_) AllReadyH.nil
    go_simp
    (try rw [← hmI])
    refine (places_any m at_ cnt _ hm ⟨HMM.out.1.1.1, HMM.out.1.1.2⟩ ⟨HMM.out.1.2, HMM.out.2⟩).mono ?_
    rintro e w4 ⟨g, rfl, hrow, hgw, hx4⟩
    have HX4 : Hid (Xt w2 w4) := (Xt.refl w2).drew.trans hx4
    have HTU := Lib.hid (along_any cols m at_ cnt hm hmI ⟨HMM.out.1.1.1, HMM.out.1.1.2⟩ ⟨HMM.out.1.2, HMM.out.2⟩ g n t a cap w4 HSM.out (HIN.out.xt (HX1.out.trans (HX2.out.trans HX4.out))) (fault_okVs t false (checkT_zero HK.out)) hrow)
    refine hK.out _ _ (Wr.of_xt HX4.out) (fun hHeld2 => ?_)
    clear hrow hx4 hgw
    clear hK K
    try simp only [Act.put, List.getElem_toArray, List.getElem_cons_zero, List.getElem_cons_succ, List.setIfInBounds_toArray, List.set_cons_zero, List.set_cons_succ]
    refine wpAnyH_ready (rs := [6]) (by kernel_rfl) (by simp) ?_
    refine AllReadyH.cons (o := _) rfl (fun K hK => ?_) AllReadyH.nil
    go_simp
    obtain ⟨r, hr⟩ : ∃ r, turnT (cellF cols ⟨at_, cnt, m⟩) (areaF cols ⟨at_, cnt, m⟩) t = r := ⟨_, rfl⟩
    rw [hr] at HTU
    refine (HTU.out).mono ?_
    rintro e w5 ⟨a2, c2, rfl, hS5, hx5⟩
    have HX5 : Hid (Xt w2 w5) := HX4.out.trans hx5
    have HS5 := Lib.hid hS5
    have hs45 := HX4.out.size
    have HRS := Lib.hid hr
    refine hK.out _ _ (Wr.of_xt HX5.out) (fun hHeld3 => ?_)
    clear hS5 hx5 hr
    clear hK K
    try simp only [Act.put, List.getElem_toArray, List.getElem_cons_zero, List.getElem_cons_succ, List.setIfInBounds_toArray, List.set_cons_zero, List.set_cons_succ]
    refine wpAnyH_ready (rs := [7]) (by kernel_rfl) (by simp) ?_
    refine AllReadyH.cons (o := _) rfl (fun K hK => ?_) AllReadyH.nil
    rw [if_pos (by rfl)]
    refine wp_store_row (P := Tryz.prog) 29 _ _ rfl (B + 1) (nodeC r (.slice a2 r.args.length c2)).toArray rfl rfl 29 _ (rowX HX5.out (rowX HX2.out HR1.out)) (by kernel_rfl) (by kernel_rfl) (all15 r a2 r.args.length c2) ?_
    refine hK.out _ _ ((Wr.of_xt HX5.out).trans (Wr.row _ rfl)) (fun hHeld4 => ?_)
    clear hK K
    try simp only [Act.put, List.getElem_toArray, List.getElem_cons_zero, List.getElem_cons_succ]
    refine wpAnyH_ready (rs := [8]) (by kernel_rfl) (by simp) ?_
    refine AllReadyH.cons (o := _) rfl (fun K hK => ?_) AllReadyH.nil
    go_simp
    refine hK.out _ _ ((Wr.of_xt HX5.out).trans (Wr.row _ rfl)) (fun hHeld5 => ?_)
    clear hK K
    try simp only [Act.put, List.getElem_toArray, List.getElem_cons_zero, List.getElem_cons_succ, List.setIfInBounds_toArray, List.set_cons_zero, List.set_cons_succ]
    refine wpAnyH_done (by kernel_rfl) ?_ _
    go_wp2_with fail
    (try simp only [Exit.inBlock, Exit.then])
    refine bodyPost_ret (v := .tuple #[.agg (nodeC r (.slice a2 r.args.length c2)).toArray, .int .i64 0]) ?_ rfl ?_
    · rw [results_cell_tmp rfl]
      show ((asAddr (.pointer (some ⟨B + 1, 0, none⟩))).run _ _).andThen _ = _
      simp only [asAddr, Sem.run_pure, Result.andThen_ok, run_loadVar_row _ _ _ 29 (nodeC r (.slice a2 r.args.length c2)).toArray _ _ (setRow_heap _ _ _ _ _ _ (rowX HX5.out (rowX HX2.out HR1.out))) Tryz.underlying29 rfl (by kernel_rfl)]
      rfl
    · have hP : formD cols at_ cnt t = (r, 0) := by unfold formD; rw [if_neg (by rw [HK.out]; simp), ← hmI, if_neg (by rw [HMK.out]; simp), HRS.out]
      rw [hP]
      have hBw := HBw.out
      have hwA := HX1.out.size
      have hA2 := HX2.out.size
      refine ⟨a2, c2, n, rfl, ?_, ?_⟩
      · exact HS5.out.keep (fun b hb _ => by omega) (fun b hb hlt => setRow_other _ _ _ _ (by omega))
      · exact ((HX1.out.trans HX2.out).trans HX5.out).grownB (setRow_grown _ _ _) (fun q hq => by cases hq; omega)
end Go.Proofs.YtlgkaipgdhcajaaGreatDoor
