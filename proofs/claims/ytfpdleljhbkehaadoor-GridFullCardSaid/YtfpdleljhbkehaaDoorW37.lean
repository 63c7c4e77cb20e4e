import Derived.Test.YtfpdleljhbkehaaDoorW36
import Derived.Test.YtfpdleljhbkehaaDoorA6
namespace Go.Proofs.YtfpdleljhbkehaaDoor
open Go.RowKit Go.Sort

/-! ### GridFull, the whole way (made by mkfull.py) -/
set_option maxRecDepth 100000 in
set_option maxHeartbeats 2000000 in
theorem full_all (nc nd : Nat) (rows : Int) (c d : ContT) (ca da : Option Addr) (capc capd : Nat) (w : World) (hT : Tabs w) (hr0 : -9223372036854775808 ≤ rows) (hr1 : rows ≤ 9223372036854775807) (hokc : c.ok) (hokd : d.ok) (hinc : ArgsIn w nc (.slice ca c.t.args.length capc) c.t.args) (hind : ArgsIn w nd (.slice da d.t.args.length capd) d.t.args) (hc : heavyB c = false) (hd : heavyB d = false) (vc : gvalidB c = true) (vd : gvalidB d = true) (hk : (c.kind == 0) = false) : Calls Tryd.prog 3 #[.int .i64 rows, contV c ca c.t.args.length capc, contV d da d.t.args.length capd] w fun e w' => e = .returned (.bool true) ∧ Xt w w' := by
  have HSC := Lib.hid (small_of_heavy hc)
  have HSD := Lib.hid (small_of_heavy hd)
  obtain ⟨B, hB⟩ : ∃ B, w.heap.size = B := ⟨_, rfl⟩
  obtain ⟨w0, hw0⟩ : ∃ w0, w.alloc (.cells #[.int .i64 c.kind, .int .i64 c.v.kind, .float .f64 c.v.x, .string c.v.s, .bool c.v.b, .int .i64 c.v.f, .int .i64 c.t.kind, .int .i64 c.t.op, .float .f64 c.t.x, .string c.t.s, .bool c.t.b, .int .i64 c.t.f, .int .i64 c.t.ref.a.1, .int .i64 c.t.ref.a.2, .bool c.t.ref.cf, .bool c.t.ref.rf, .int .i64 c.t.to.a.1, .int .i64 c.t.to.a.2, .bool c.t.to.cf, .bool c.t.to.rf, .slice ca c.t.args.length capc] 33) = w0 := ⟨_, rfl⟩
  obtain ⟨w1, hw1⟩ : ∃ w1, w0.alloc (.cells #[.int .i64 d.kind, .int .i64 d.v.kind, .float .f64 d.v.x, .string d.v.s, .bool d.v.b, .int .i64 d.v.f, .int .i64 d.t.kind, .int .i64 d.t.op, .float .f64 d.t.x, .string d.t.s, .bool d.t.b, .int .i64 d.t.f, .int .i64 d.t.ref.a.1, .int .i64 d.t.ref.a.2, .bool d.t.ref.cf, .bool d.t.ref.rf, .int .i64 d.t.to.a.1, .int .i64 d.t.to.a.2, .bool d.t.to.cf, .bool d.t.to.rf, .slice da d.t.args.length capd] 33) = w1 := ⟨_, rfl⟩
  have hx01 : Xt w0 w1 := by rw [← hw1]; exact (Xt.refl w0).alloc _
  have hxw : Xt w w1 := by rw [← hw1, ← hw0]; exact ((Xt.refl w).alloc _).alloc _
  have hs0 : w0.heap.size = B + 1 := by rw [← hw0, ← hB]; simp
  have hs1 : w1.heap.size = B + 2 := by rw [← hw1]; simp [hs0]
  have hrc : w1.heap[B]? = some (.cells #[.int .i64 c.kind, .int .i64 c.v.kind, .float .f64 c.v.x, .string c.v.s, .bool c.v.b, .int .i64 c.v.f, .int .i64 c.t.kind, .int .i64 c.t.op, .float .f64 c.t.x, .string c.t.s, .bool c.t.b, .int .i64 c.t.f, .int .i64 c.t.ref.a.1, .int .i64 c.t.ref.a.2, .bool c.t.ref.cf, .bool c.t.ref.rf, .int .i64 c.t.to.a.1, .int .i64 c.t.to.a.2, .bool c.t.to.cf, .bool c.t.to.rf, .slice ca c.t.args.length capc] 33 (0, 0)) := (hx01.block B (by omega)).trans (by rw [← hw0, ← hB]; exact (MapKept.heap_alloc w _).1)
  have hrd : w1.heap[B + 1]? = some (.cells #[.int .i64 d.kind, .int .i64 d.v.kind, .float .f64 d.v.x, .string d.v.s, .bool d.v.b, .int .i64 d.v.f, .int .i64 d.t.kind, .int .i64 d.t.op, .float .f64 d.t.x, .string d.t.s, .bool d.t.b, .int .i64 d.t.f, .int .i64 d.t.ref.a.1, .int .i64 d.t.ref.a.2, .bool d.t.ref.cf, .bool d.t.ref.rf, .int .i64 d.t.to.a.1, .int .i64 d.t.to.a.2, .bool d.t.to.cf, .bool d.t.to.rf, .slice da d.t.args.length capd] 33 (0, 0)) := by rw [← hw1, ← hs0]; exact (MapKept.heap_alloc w0 _).1
  have HRC := Lib.hid (fun W (hx : Xt w1 W) => (hx.block B (by omega)).trans hrc)
  have HRD := Lib.hid (fun W (hx : Xt w1 W) => (hx.block (B + 1) (by omega)).trans hrd)
  have HT := Lib.hid (fun W (hx : Xt w1 W) => hT.xt (hxw.trans hx))
  have HIC := Lib.hid (fun W (hx : Xt w1 W) => hinc.xt (hxw.trans hx))
  have HID := Lib.hid (fun W (hx : Xt w1 W) => hind.xt (hxw.trans hx))
  have HXW := Lib.hid hxw
  have HB := Lib.hid hB
  have hx1 : Xt w1 w1 := Xt.refl w1
  clear hrc hrd hT hinc hind hxw hx01
  have hHs : w.heap.size = B := HB.out
  have HOC := Lib.hid hokc
  have HOD := Lib.hid hokd
  clear hokc hokd
  have HHC := Lib.hid hc
  have HHD := Lib.hid hd
  have HVC := Lib.hid vc
  have HVD := Lib.hid vd
  have HPK := Lib.hid (fun W => pick_any rows 256 W hr0 hr1 (by omega) (by omega))
  clear hc hd vc vd hr0 hr1
  go_enter Tryd.func3, Tryd.ntmps3
  go_wp2_with (first
    | (go_at_call 6; refine (awake_any _ (HT.out _ (by assumption))).mono ?_; rintro e w2 ⟨rfl, hq2⟩; have hx2 := hx1.trans hq2; clear hq2 hx1)
    | (go_at_call 7; refine (gnew_any _).mono ?_; rintro e w3 ⟨rfl, hG3, hg3⟩; have hx3 := hx2.trans hg3.xt; have hmb := hx2.sz; clear hg3 hx2)
    | (go_at_call 8; have _q := hx3; clear _q; refine (heavy_any nc c ca capc _ (HIC.out _ (by assumption))).mono ?_; rintro e w4 ⟨rfl, hg4⟩; rw [HHC.out]; have hx4 := hx3.trans hg4.xt; have hG4 := hG3.xt hg4.xt; clear hG3 hx3 hg4)
    | (go_at_call 8; have _q := hx4; clear _q; refine (heavy_any nd d da capd _ (HID.out _ (by assumption))).mono ?_; rintro e w5 ⟨rfl, hg5⟩; rw [HHD.out]; have hx5 := hx4.trans hg5.xt; have hG5 := hG4.xt hg5.xt; clear hG4 hx4 hg5)
    | (go_at_call 9; have _q := hx5; clear _q; refine (gvalid_any nc c ca capc _ HOC.out (HT.out _ (by assumption)) (HIC.out _ (by assumption))).mono ?_; rintro e w6 ⟨rfl, hg6⟩; rw [HVC.out]; have hx6 := hx5.trans hg6; have hG6 := hG5.xt hg6; clear hG5 hx5 hg6)
    | (go_at_call 9; have _q := hx6; clear _q; refine (gvalid_any nd d da capd _ HOD.out (HT.out _ (by assumption)) (HID.out _ (by assumption))).mono ?_; rintro e w7 ⟨rfl, hg7⟩; rw [HVD.out]; have hx7 := hx6.trans hg7; have hG7 := hG6.xt hg7; clear hG6 hx6 hg7; have hck : w7.cell? ⟨B, 0, none⟩ = some (.int .i64 c.kind) := (by have := HRC.out _ hx7; simp [World.cell?, this]))
    | (refine BigFrame.wpList_want (by rfl) (fun K hK => wp_load_row 33 _ rfl B rfl 33 _ (0, 0) _ (HRC.out _ (by assumption)) Tryd.underlying33 rfl (by kernel_rfl) (hK _ _ ?_)); clear hK K)
    | (refine BigFrame.wpList_want (by rfl) (fun K hK => wp_load_row 33 _ rfl (B + 1) rfl 33 _ (0, 0) _ (HRD.out _ (by assumption)) Tryd.underlying33 rfl (by kernel_rfl) (hK _ _ ?_)); clear hK K))
  refine (HPK.out _).mono ?_
  rintro e w' ⟨pk, rfl, hp0, hp1, rfl⟩
  obtain ⟨wd, rfl⟩ : ∃ wd : Nat, pk = (wd : Int) - 1 := ⟨(pk + 1).toNat, by omega⟩
  have hwd1 : 1 ≤ wd := by omega
  have hwd2 : wd ≤ 256 := by omega
  have hadd : IntKind.i64.wrap (1 + ((wd : Int) - 1)) = (wd : Int) := by rw [wrap_id (by omega) (by omega)]; omega
  go_wp2_with fail
  generalize hgb : w2.heap.size + 1 = gb at hG7 ⊢
  generalize hmbe : w2.heap.size = mb at hG7 hmb
  have HF0 : Hid (Full wd 0 []) := ⟨List.Pairwise.nil, rfl, (fun x hx => by cases hx), fun h => absurd h (by omega)⟩
  have HG7 := Lib.hid hG7
  have HX7 := Lib.hid hx7
  clear hgb hmbe hG7 hx7 hck hadd HHC HHD HPK hw0 hw1 hs0
  go_loopw [10, 11] (fun s10 s11 wr => ∃ (n r : Nat) (M : GM), n ≤ 4096 ∧ r ≤ 4096 ∧ Hid (n = r * wd ∨ n = 4096) ∧ Hid (n ≤ r * wd ∧ (r = 0 ∨ (r - 1) * wd < 4096)) ∧ s10 = .int .i64 n ∧ s11 = .int .i64 ((r : Int) + 1) ∧ Hid (GridIs wr gb mb M) ∧ Hid (Full wd n M) ∧ Hid (Xt w1 wr)) (fun _ s11 _ => 4097 - (intOf s11).toNat)
  case atStart => exact ⟨0, 0, [], by omega, by omega, Lib.hid (Or.inl (by simp)), Lib.hid ⟨by simp, Or.inl rfl⟩, rfl, rfl, HG7, HF0, HX7⟩
  case round =>
    clear HG7 HF0 HX7
    obtain ⟨n, r, M, hn, hr, hnr, HQ, rfl, rfl, HG, HF, HX⟩ := hrel
    by_cases hcond : (r : Int) + 1 ≤ 4096 ∧ (n : Int) < 4096
    · obtain ⟨hle, hlt⟩ := hcond
      have HNR : Hid (n = r * wd + 0) := Lib.hid (by have := hnr.out; omega)
      obtain ⟨wq, hwq⟩ : ∃ wq, wq = wr := ⟨_, rfl⟩
      subst hwq
      clear hnr
      go_wp2_with fail
      go_loopw [10, 12] (fun s10 s12 wr => ∃ (n2 k : Nat) (M2 : GM), k ≤ wd ∧ Hid (n2 = r * wd + k) ∧ n2 ≤ 4096 ∧ s10 = .int .i64 n2 ∧ s12 = .int .i64 ((k : Int) + 1) ∧ Hid (GridIs wr gb mb M2) ∧ Hid (Full wd n2 M2) ∧ Hid (Xt w1 wr)) (fun _ s12 _ => wd + 1 - (intOf s12).toNat)
      case atStart => exact ⟨n, 0, M, by omega, HNR, hn, rfl, rfl, HG, HF, HX⟩
      case round =>
        clear HG HF HX
        obtain ⟨n2, k, M2, hkw, hn2, hn2b, rfl, rfl, HG2, HF2, HX2⟩ := hrel
        obtain ⟨wq2, hwq2⟩ : ∃ wq2, wq2 = wr := ⟨_, rfl⟩
        subst hwq2
        by_cases hcond2 : (k : Int) + 1 ≤ (wd : Int) ∧ (n2 : Int) < 4096
        · obtain ⟨hle2, hlt2⟩ := hcond2
          have hkw : k < wd := by omega
          have hr1 : IntKind.i64.wrap ((k : Int) + 1 + 1) = (k : Int) + 1 + 1 := wrap_id (by omega) (by omega)
          have hr2 : IntKind.i64.wrap ((n2 : Int) + 1) = (n2 : Int) + 1 := wrap_id (by omega) (by omega)
          have hfu : fullB M2 ((k : Int) + 1, (r : Int) + 1) = false := by
            have := HF2.out.len
            unfold fullB; simp; intro _; omega
          have hval : validB ((k : Int) + 1) ((r : Int) + 1) = true := by
            unfold validB; simp; omega
          have HPC : Hid (putCode M2 ((k : Int) + 1, (r : Int) + 1) c = 0) := Lib.hid (by simp only [putCode, HVC.out, hval, hk, hfu]; rfl)
          have HPT : Hid (∀ x, putTo M2 ((k : Int) + 1, (r : Int) + 1) c x = setM ((k : Int) + 1, (r : Int) + 1) (copyC c, x) M2) := Lib.hid (fun x => by simp only [putTo, HVC.out, hval, hk, hfu]; rfl)
          clear hval hfu
          go_wp2_with fail
          have hSq : wq2.drew.rangeAt B 0 [.int .i64 c.kind, .int .i64 c.v.kind, .float .f64 c.v.x, .string c.v.s, .bool c.v.b, .int .i64 c.v.f, .int .i64 c.t.kind, .int .i64 c.t.op, .float .f64 c.t.x, .string c.t.s, .bool c.t.b, .int .i64 c.t.f, .int .i64 c.t.ref.a.1, .int .i64 c.t.ref.a.2, .bool c.t.ref.cf, .bool c.t.ref.rf, .int .i64 c.t.to.a.1, .int .i64 c.t.to.a.2, .bool c.t.to.cf, .bool c.t.to.rf, .slice ca c.t.args.length capc] := range_row (HRC.out _ HX2.out.drew)
          refine wp_region_held_drew (S := fun w' => w'.rangeAt B 0 [.int .i64 c.kind, .int .i64 c.v.kind, .float .f64 c.v.x, .string c.v.s, .bool c.v.b, .int .i64 c.v.f, .int .i64 c.t.kind, .int .i64 c.t.op, .float .f64 c.t.x, .string c.t.s, .bool c.t.b, .int .i64 c.t.f, .int .i64 c.t.ref.a.1, .int .i64 c.t.ref.a.2, .bool c.t.ref.cf, .bool c.t.ref.rf, .int .i64 c.t.to.a.1, .int .i64 c.t.to.a.2, .bool c.t.to.cf, .bool c.t.to.rf, .slice ca c.t.args.length capc]) (by kernel_rfl) hSq (fun hHeld => ?_)
          refine wpAnyH_take (i := 0) (oi := _) (v := ?_) rfl (by kernel_rfl) (by kernel_rfl) (by kernel_rfl) (fun _ _ _ h => h) (Or.inl ⟨by rfl, ?_⟩) (by assumption) ?_
          rotate_left
          · intro w hSw; (try dsimp only at hSw); clear hSw; go_simp; first | done | with_reducible rfl
          try simp only [Act.put, List.getElem_toArray, List.getElem_cons_zero, List.setIfInBounds_toArray, List.set_cons_zero, List.set_cons_succ]
          refine wpAnyH_take (i := 1) (oi := _) (v := ?_) rfl (by kernel_rfl) (by kernel_rfl) (by kernel_rfl) (fun _ _ _ h => h) (Or.inl ⟨by rfl, ?_⟩) (by assumption) ?_
          rotate_left
          · intro w hSw; (try dsimp only at hSw); clear hSw; go_simp; first | done | with_reducible rfl
          try simp only [Act.put, List.getElem_toArray, List.getElem_cons_zero, List.getElem_cons_succ, List.setIfInBounds_toArray, List.set_cons_zero, List.set_cons_succ]
          refine wpAnyH_take (i := 2) (oi := _) (v := ?_) rfl (by kernel_rfl) (by kernel_rfl) (by kernel_rfl) (fun _ _ _ h => h) (Or.inl ⟨by rfl, ?_⟩) (by assumption) ?_
          rotate_left
          · intro w hSw; (try dsimp only at hSw); clear hSw; go_simp; first | done | with_reducible rfl
          try simp only [Act.put, List.getElem_toArray, List.getElem_cons_zero, List.getElem_cons_succ, List.setIfInBounds_toArray, List.set_cons_zero, List.set_cons_succ]
          refine wpAnyH_take (i := 4) (oi := _) (v := .agg #[.int .i64 c.kind, .int .i64 c.v.kind, .float .f64 c.v.x, .string c.v.s, .bool c.v.b, .int .i64 c.v.f, .int .i64 c.t.kind, .int .i64 c.t.op, .float .f64 c.t.x, .string c.t.s, .bool c.t.b, .int .i64 c.t.f, .int .i64 c.t.ref.a.1, .int .i64 c.t.ref.a.2, .bool c.t.ref.cf, .bool c.t.ref.rf, .int .i64 c.t.to.a.1, .int .i64 c.t.to.a.2, .bool c.t.to.cf, .bool c.t.to.rf, .slice ca c.t.args.length capc]) rfl (by kernel_rfl) (by kernel_rfl) (by kernel_rfl) (fun _ _ _ h => h) (yieldsIf_load_mid (by rfl) 33 _ rfl B 0 rfl [.int .i64 c.kind, .int .i64 c.v.kind, .float .f64 c.v.x, .string c.v.s, .bool c.v.b, .int .i64 c.v.f, .int .i64 c.t.kind, .int .i64 c.t.op, .float .f64 c.t.x, .string c.t.s, .bool c.t.b, .int .i64 c.t.f, .int .i64 c.t.ref.a.1, .int .i64 c.t.ref.a.2, .bool c.t.ref.cf, .bool c.t.ref.rf, .int .i64 c.t.to.a.1, .int .i64 c.t.to.a.2, .bool c.t.to.cf, .bool c.t.to.rf, .slice ca c.t.args.length capc] _ (fun w' hw' => hw') Tryd.underlying33 rfl (by kernel_rfl)) (by assumption) ?_
          try simp only [Act.put, List.getElem_toArray, List.getElem_cons_zero, List.getElem_cons_succ, List.setIfInBounds_toArray, List.set_cons_zero, List.set_cons_succ]
          refine wpAnyH_ready (rs := [3]) (by kernel_rfl) (by simp) ?_
          refine AllReadyH.cons (o := _) rfl (fun K hK => ?_) AllReadyH.nil
          go_simp
          refine (cell_any ((k : Int) + 1, (r : Int) + 1) _).mono ?_
          rintro e wa ⟨rfl, hga⟩
          have hxa : Xt w1 wa := HX2.out.drew.trans hga.xt
          have hGa : GridIs wa gb mb M2 := HG2.out.xt ((Xt.refl wq2).drew.trans hga.xt)
          refine hK.out _ _ (range_row (HRC.out _ hxa)) (fun hHeld2 => ?_)
          clear hK K hga
          try simp only [Act.put, List.getElem_toArray, List.getElem_cons_zero, List.getElem_cons_succ, List.setIfInBounds_toArray, List.set_cons_zero, List.set_cons_succ]
          refine wpAnyH_ready (rs := [5]) (by kernel_rfl) (by simp) ?_
          refine AllReadyH.cons (o := _) rfl (fun K hK => ?_) AllReadyH.nil
          go_simp
          refine (gput_any nc gb mb M2 ((k : Int) + 1, (r : Int) + 1) c ca capc wa hGa HOC.out (HT.out _ hxa) HSC.out (HIC.out _ hxa)).mono ?_
          rintro e wb ⟨x, rfl, hGb, hgb2⟩
          have hxb : Xt w1 wb := hxa.via hgb2 hmb
          rw [HPC.out]
          rw [HPT.out x] at hGb
          have HFB : Hid (Full wd (n2 + 1) (setM ((k : Int) + 1, (r : Int) + 1) (copyC c, x) M2)) := HF2.out.put hkw hn2.out _
          have HGB := Lib.hid hGb
          have HXB := Lib.hid hxb
          refine hK.out _ _ (range_row (HRC.out _ hxb)) (fun hHeld3 => ?_)
          clear hK K hGa hxa hGb hgb2 hxb
          try simp only [Act.put, List.getElem_toArray, List.getElem_cons_zero, List.getElem_cons_succ, List.setIfInBounds_toArray, List.set_cons_zero, List.set_cons_succ]
          refine wpAnyH_take (i := 6) (oi := _) (v := ?_) rfl (by kernel_rfl) (by kernel_rfl) (by kernel_rfl) (fun _ _ _ h => h) (Or.inl ⟨by rfl, ?_⟩) (by assumption) ?_
          rotate_left
          · intro w hSw; (try dsimp only at hSw); clear hSw; go_simp; first | done | with_reducible rfl
          try simp only [Act.put, List.getElem_toArray, List.getElem_cons_zero, List.getElem_cons_succ, List.setIfInBounds_toArray, List.set_cons_zero, List.set_cons_succ]
          refine wpAnyH_done (by kernel_rfl) ?_ _
          go_wp2_with fail
          go_roundw
          case rel => exact ⟨n2 + 1, k + 1, _, by omega, Lib.hid (by have := hn2.out; omega), by omega, by go_num, by go_num, HGB, HFB, HXB⟩
          case measure => simp [intOf]; omega
        · have hr1 : IntKind.i64.wrap ((r : Int) + 1 + 1) = (r : Int) + 1 + 1 := wrap_id (by omega) (by omega)
          have HQ2 : Hid (n2 ≤ (r + 1) * wd ∧ (r + 1 = 0 ∨ (r + 1 - 1) * wd < 4096)) := Lib.hid ⟨by have := hn2.out; rw [Nat.succ_mul]; omega, Or.inr (by have := HNR.out; rw [Nat.add_sub_cancel]; omega)⟩
          have hnn : Hid (n2 = (r + 1) * wd ∨ n2 = 4096) := Lib.hid (by have := hn2.out; rw [Nat.succ_mul]; omega)
          by_cases hk2 : (k : Int) + 1 ≤ (wd : Int)
          · have hn4 : ¬ (n2 : Int) < 4096 := by omega
            go_wp2_with fail
            go_roundw
            case rel => exact ⟨n2, r + 1, M2, hn2b, by omega, hnn, HQ2, rfl, by go_num, HG2, HF2, HX2⟩
            case measure => simp [intOf]; omega
          · go_wp2_with fail
            go_roundw
            case rel => exact ⟨n2, r + 1, M2, hn2b, by omega, hnn, HQ2, rfl, by go_num, HG2, HF2, HX2⟩
            case measure => simp [intOf]; omega
    · have hn4 : n = 4096 := by
        rcases hnr.out with h | h
        · have : r ≤ r * wd := Nat.le_mul_of_pos_right r hwd1
          omega
        · exact h
      subst hn4
      clear hcond hnr hn
      by_cases hw1 : (wd : Int) = 1
      · have hrow : ¬ (r : Int) + 1 ≤ 4096 := by obtain ⟨a1, a2⟩ := HQ.out; rw [show wd = 1 by omega] at a1; omega
        have HFV := Lib.hid (five (last := (2, 1)) (c := c) (d := d) HF.out.sorted HF.out.len ((HF.out.last hwd1).1 (by omega)) (by kernel_rfl) (HF.out.one (by omega)) (by decide) HVC.out HVD.out hk)
        go_wp2_with fail
        refine (cell_any (256, 4096) _).mono ?_
        rintro e v1 ⟨rfl, hg1⟩
        have hxv1 : Xt w1 v1 := HX.out.trans hg1.xt
        have hGv1 := HG.out.xt hg1.xt
        clear hg1 HX
        obtain ⟨P, hP⟩ : ∃ P, v1.heap.size = P := ⟨_, rfl⟩
        obtain ⟨v2, hv2⟩ : ∃ v2, v1.alloc (.cells #[.int .i64 256, .int .i64 4096] 26) = v2 := ⟨_, rfl⟩
        have hc2 : Xt v1 v2 := by rw [← hv2]; exact (Xt.refl v1).alloc _
        have r13 : v2.heap[P]? = some (.cells #[.int .i64 256, .int .i64 4096] 26 (0, 0)) := by rw [← hv2, ← hP]; exact (MapKept.heap_alloc v1 _).1
        have R13 := Lib.hid r13
        clear r13
        go_wp2_with fail
        refine (cell_any (1, 1) _).mono ?_
        rintro e v3 ⟨rfl, hg3⟩
        have hc3 := hc2.trans hg3.xt
        have r13 := (hg3.xt.block P (Array.getElem?_eq_some_iff.1 R13.out).1).trans R13.out
        obtain ⟨Q, hQ⟩ : ∃ Q, v3.heap.size = Q := ⟨_, rfl⟩
        have hPQ : P < Q := by rw [← hQ]; exact (Array.getElem?_eq_some_iff.1 r13).1
        obtain ⟨v4, hv4⟩ : ∃ v4, v3.alloc (.cells #[.int .i64 1, .int .i64 1] 26) = v4 := ⟨_, rfl⟩
        have hx34 : Xt v3 v4 := by rw [← hv4]; exact (Xt.refl v3).alloc _
        have r14 : v4.heap[Q]? = some (.cells #[.int .i64 1, .int .i64 1] 26 (0, 0)) := by rw [← hv4, ← hQ]; exact (MapKept.heap_alloc v3 _).1
        have r13 := (hx34.block P (Array.getElem?_eq_some_iff.1 r13).1).trans r13
        have hc4 := hc3.trans hx34
        clear hg3 hx34 R13 hc2 hc3
        have R13 := Lib.hid r13
        have R14 := Lib.hid r14
        clear r13 r14
        go_wp2_with fail
        refine (cell_any (2, 1) _).mono ?_
        rintro e v5 ⟨rfl, hg5⟩
        have hc5 := hc4.trans hg5.xt
        have r13 := (hg5.xt.block P (Array.getElem?_eq_some_iff.1 R13.out).1).trans R13.out
        have r14 := (hg5.xt.block Q (Array.getElem?_eq_some_iff.1 R14.out).1).trans R14.out
        obtain ⟨v6, hv6⟩ : ∃ v6, v5.setRow P #[.int .i64 2, .int .i64 1] = v6 := ⟨_, rfl⟩
        have hg6 : v5.grownBy v6 (some P) := by rw [← hv6]; exact setRow_grown _ _ _
        have r13' : v6.heap[P]? = some (.cells #[.int .i64 2, .int .i64 1] 26 (0, 0)) := by rw [← hv6]; exact setRow_heap v5 _ _ _ _ _ r13
        have r14' := (hg6.block Q (Array.getElem?_eq_some_iff.1 r14).1 (fun e => by cases e; omega)).trans r14
        have hc6 := hc5.grownB hg6 (fun m e => by cases e; omega)
        have R13' := Lib.hid r13
        have HV6 := Lib.hid hv6
        have e0 : v6.cell? ⟨P, 0, none⟩ = some (.int .i64 2) := by simp [World.cell?, r13']
        have e1 : v6.cell? ⟨P, 1, none⟩ = some (.int .i64 1) := by simp [World.cell?, r13']
        have f0 : v6.cell? ⟨Q, 0, none⟩ = some (.int .i64 1) := by simp [World.cell?, r14']
        have f1 : v6.cell? ⟨Q, 1, none⟩ = some (.int .i64 1) := by simp [World.cell?, r14']
        have hxu := hxv1.trans hc6
        have hGu := hGv1.xt hc6
        clear hg5 r13 r14 r13' r14' hg6 hv6 hc4 hc5 hc6 R13 R14 hGv1 hxv1
        go_wp2_with (first | (refine wpList_store_row (P := Tryd.prog) rfl 26 _ _ rfl P #[.int .i64 2, .int .i64 1] rfl rfl 26 _ R13'.out (by kernel_rfl) rfl (by simp [Value.oneCell']) ?_; rw [HV6.out]) | (refine BigFrame.wpList_want (by rfl) (fun K hK => wp_load_row 33 _ rfl B rfl 33 _ (0, 0) _ (HRC.out _ (by assumption)) Tryd.underlying33 rfl (by kernel_rfl) (hK _ _ ?_)); clear hK K) | (refine BigFrame.wpList_want (by rfl) (fun K hK => wp_load_row 33 _ rfl (B + 1) rfl 33 _ (0, 0) _ (HRD.out _ (by assumption)) Tryd.underlying33 rfl (by kernel_rfl) (hK _ _ ?_)); clear hK K))
        refine (gput_any nc gb mb M (2, 1) c ca capc v6 hGu HOC.out (HT.out _ hxu) HSC.out (HIC.out _ hxu)).mono ?_
        rintro e u1 ⟨x1, rfl, hGn, hgn⟩
        rw [HFV.out.c1]
        rw [HFV.out.t1] at hGn
        replace hxu := hxu.via hgn hmb
        have hci := hGu.cellsIn hgn
        replace e0 := hci _ _ _ e0
        replace e1 := hci _ _ _ e1
        replace f0 := hci _ _ _ f0
        replace f1 := hci _ _ _ f1
        replace hGu := hGn
        clear hGn hgn hci
        go_wp2_with (first | (refine BigFrame.wpList_want (by rfl) (fun K hK => wp_load_row 33 _ rfl B rfl 33 _ (0, 0) _ (HRC.out _ (by assumption)) Tryd.underlying33 rfl (by kernel_rfl) (hK _ _ ?_)); clear hK K) | (refine BigFrame.wpList_want (by rfl) (fun K hK => wp_load_row 33 _ rfl (B + 1) rfl 33 _ (0, 0) _ (HRD.out _ (by assumption)) Tryd.underlying33 rfl (by kernel_rfl) (hK _ _ ?_)); clear hK K))
        refine (gput_any 0 gb mb M (2, 1) zeroC none 0 u1 hGu zeroC_ok (HT.out _ hxu) zero_small (noArgs _)).mono ?_
        rintro e u2 ⟨x2, rfl, hGn, hgn⟩
        rw [HFV.out.c2]
        rw [HFV.out.t2] at hGn
        replace hxu := hxu.via hgn hmb
        have hci := hGu.cellsIn hgn
        replace e0 := hci _ _ _ e0
        replace e1 := hci _ _ _ e1
        replace f0 := hci _ _ _ f0
        replace f1 := hci _ _ _ f1
        replace hGu := hGn
        clear hGn hgn hci
        go_wp2_with (first | (refine BigFrame.wpList_want (by rfl) (fun K hK => wp_load_row 33 _ rfl (B + 1) rfl 33 _ (0, 0) _ (HRD.out _ (by assumption)) Tryd.underlying33 rfl (by kernel_rfl) (hK _ _ ?_)); clear hK K) | (refine BigFrame.wpList_want (by rfl) (fun K hK => wp_load_row 33 _ rfl B rfl 33 _ (0, 0) _ (HRC.out _ (by assumption)) Tryd.underlying33 rfl (by kernel_rfl) (hK _ _ ?_)); clear hK K))
        refine (gput_any nd gb mb M (1, 1) d da capd u2 hGu HOD.out (HT.out _ hxu) HSD.out (HID.out _ hxu)).mono ?_
        rintro e u3 ⟨x3, rfl, hGn, hgn⟩
        rw [HFV.out.c3]
        replace hxu := hxu.via hgn hmb
        have hci := hGu.cellsIn hgn
        replace e0 := hci _ _ _ e0
        replace e1 := hci _ _ _ e1
        replace f0 := hci _ _ _ f0
        replace f1 := hci _ _ _ f1
        replace hGu := hGn
        clear hGn hgn hci
        go_wp2_with (first | (refine BigFrame.wpList_want (by rfl) (fun K hK => wp_load_row 33 _ rfl B rfl 33 _ (0, 0) _ (HRC.out _ (by assumption)) Tryd.underlying33 rfl (by kernel_rfl) (hK _ _ ?_)); clear hK K) | (refine BigFrame.wpList_want (by rfl) (fun K hK => wp_load_row 33 _ rfl (B + 1) rfl 33 _ (0, 0) _ (HRD.out _ (by assumption)) Tryd.underlying33 rfl (by kernel_rfl) (hK _ _ ?_)); clear hK K))
        refine (gput_any 0 gb mb (putTo M (1, 1) d x3) (1, 1) zeroC none 0 u3 hGu zeroC_ok (HT.out _ hxu) zero_small (noArgs _)).mono ?_
        rintro e u4 ⟨x4, rfl, hGn, hgn⟩
        rw [HFV.out.c4 x3]
        replace hxu := hxu.via hgn hmb
        have hci := hGu.cellsIn hgn
        replace e0 := hci _ _ _ e0
        replace e1 := hci _ _ _ e1
        replace f0 := hci _ _ _ f0
        replace f1 := hci _ _ _ f1
        replace hGu := hGn
        clear hGn hgn hci
        go_wp2_with (first | (refine BigFrame.wpList_want (by rfl) (fun K hK => wp_load_row 33 _ rfl B rfl 33 _ (0, 0) _ (HRC.out _ (by assumption)) Tryd.underlying33 rfl (by kernel_rfl) (hK _ _ ?_)); clear hK K) | (refine BigFrame.wpList_want (by rfl) (fun K hK => wp_load_row 33 _ rfl (B + 1) rfl 33 _ (0, 0) _ (HRD.out _ (by assumption)) Tryd.underlying33 rfl (by kernel_rfl) (hK _ _ ?_)); clear hK K))
        refine (gput_any nc gb mb (putTo (putTo M (1, 1) d x3) (1, 1) zeroC x4) (2, 1) c ca capc u4 hGu HOC.out (HT.out _ hxu) HSC.out (HIC.out _ hxu)).mono ?_
        rintro e u5 ⟨x5, rfl, hGn, hgn⟩
        rw [HFV.out.c5 x3 x4]
        replace hxu := hxu.via hgn hmb
        have hci := hGu.cellsIn hgn
        replace e0 := hci _ _ _ e0
        replace e1 := hci _ _ _ e1
        replace f0 := hci _ _ _ f0
        replace f1 := hci _ _ _ f1
        replace hGu := hGn
        clear hGn hgn hci
        have HL5 : Hid (((putTo (putTo (putTo M (1, 1) d x3) (1, 1) zeroC x4) (2, 1) c x5).length : Int) = 4096) := Lib.hid (by rw [HFV.out.l5 x3 x4 x5]; rfl)
        go_wp2_with (refine (glen_any gb mb _ _ hGu).mono ?_; rintro e w' ⟨rfl, rfl⟩; rw [HL5.out])
        go_ret
        exact ⟨rfl, HXW.out.trans hxu⟩
      · have hrow : (r : Int) + 1 ≤ 4096 := by
          obtain ⟨a1, a2⟩ := HQ.out
          rcases a2 with a2 | a2
          · omega
          · have := Nat.mul_le_mul_left (r - 1) (show 2 ≤ wd by omega)
            omega
        have HFV := Lib.hid (five (last := (256, 4096)) (c := c) (d := d) HF.out.sorted HF.out.len ((HF.out.last hwd1).2 (by omega)) (by kernel_rfl) (HF.out.one (by omega)) (by decide) HVC.out HVD.out hk)
        go_wp2_with fail
        refine (cell_any (256, 4096) _).mono ?_
        rintro e v1 ⟨rfl, hg1⟩
        have hxv1 : Xt w1 v1 := HX.out.trans hg1.xt
        have hGv1 := HG.out.xt hg1.xt
        clear hg1 HX
        obtain ⟨P, hP⟩ : ∃ P, v1.heap.size = P := ⟨_, rfl⟩
        obtain ⟨v2, hv2⟩ : ∃ v2, v1.alloc (.cells #[.int .i64 256, .int .i64 4096] 26) = v2 := ⟨_, rfl⟩
        have hc2 : Xt v1 v2 := by rw [← hv2]; exact (Xt.refl v1).alloc _
        have r13 : v2.heap[P]? = some (.cells #[.int .i64 256, .int .i64 4096] 26 (0, 0)) := by rw [← hv2, ← hP]; exact (MapKept.heap_alloc v1 _).1
        have R13 := Lib.hid r13
        clear r13
        go_wp2_with fail
        refine (cell_any (1, 1) _).mono ?_
        rintro e v3 ⟨rfl, hg3⟩
        have hc3 := hc2.trans hg3.xt
        have r13 := (hg3.xt.block P (Array.getElem?_eq_some_iff.1 R13.out).1).trans R13.out
        obtain ⟨Q, hQ⟩ : ∃ Q, v3.heap.size = Q := ⟨_, rfl⟩
        have hPQ : P < Q := by rw [← hQ]; exact (Array.getElem?_eq_some_iff.1 r13).1
        obtain ⟨v4, hv4⟩ : ∃ v4, v3.alloc (.cells #[.int .i64 1, .int .i64 1] 26) = v4 := ⟨_, rfl⟩
        have hx34 : Xt v3 v4 := by rw [← hv4]; exact (Xt.refl v3).alloc _
        have r14 : v4.heap[Q]? = some (.cells #[.int .i64 1, .int .i64 1] 26 (0, 0)) := by rw [← hv4, ← hQ]; exact (MapKept.heap_alloc v3 _).1
        have r13 := (hx34.block P (Array.getElem?_eq_some_iff.1 r13).1).trans r13
        have hc4 := hc3.trans hx34
        clear hg3 hx34 R13 hc2 hc3
        have e0 : v4.cell? ⟨P, 0, none⟩ = some (.int .i64 256) := by simp [World.cell?, r13]
        have e1 : v4.cell? ⟨P, 1, none⟩ = some (.int .i64 4096) := by simp [World.cell?, r13]
        have f0 : v4.cell? ⟨Q, 0, none⟩ = some (.int .i64 1) := by simp [World.cell?, r14]
        have f1 : v4.cell? ⟨Q, 1, none⟩ = some (.int .i64 1) := by simp [World.cell?, r14]
        have hxu := hxv1.trans hc4
        have hGu := hGv1.xt hc4
        clear r13 r14 hc4 hGv1 hxv1
        go_wp2_with (first | (refine BigFrame.wpList_want (by rfl) (fun K hK => wp_load_row 33 _ rfl B rfl 33 _ (0, 0) _ (HRC.out _ (by assumption)) Tryd.underlying33 rfl (by kernel_rfl) (hK _ _ ?_)); clear hK K) | (refine BigFrame.wpList_want (by rfl) (fun K hK => wp_load_row 33 _ rfl (B + 1) rfl 33 _ (0, 0) _ (HRD.out _ (by assumption)) Tryd.underlying33 rfl (by kernel_rfl) (hK _ _ ?_)); clear hK K))
        refine (gput_any nc gb mb M (256, 4096) c ca capc v4 hGu HOC.out (HT.out _ hxu) HSC.out (HIC.out _ hxu)).mono ?_
        rintro e u1 ⟨x1, rfl, hGn, hgn⟩
        rw [HFV.out.c1]
        rw [HFV.out.t1] at hGn
        replace hxu := hxu.via hgn hmb
        have hci := hGu.cellsIn hgn
        replace e0 := hci _ _ _ e0
        replace e1 := hci _ _ _ e1
        replace f0 := hci _ _ _ f0
        replace f1 := hci _ _ _ f1
        replace hGu := hGn
        clear hGn hgn hci
        go_wp2_with (first | (refine BigFrame.wpList_want (by rfl) (fun K hK => wp_load_row 33 _ rfl B rfl 33 _ (0, 0) _ (HRC.out _ (by assumption)) Tryd.underlying33 rfl (by kernel_rfl) (hK _ _ ?_)); clear hK K) | (refine BigFrame.wpList_want (by rfl) (fun K hK => wp_load_row 33 _ rfl (B + 1) rfl 33 _ (0, 0) _ (HRD.out _ (by assumption)) Tryd.underlying33 rfl (by kernel_rfl) (hK _ _ ?_)); clear hK K))
        refine (gput_any 0 gb mb M (256, 4096) zeroC none 0 u1 hGu zeroC_ok (HT.out _ hxu) zero_small (noArgs _)).mono ?_
        rintro e u2 ⟨x2, rfl, hGn, hgn⟩
        rw [HFV.out.c2]
        rw [HFV.out.t2] at hGn
        replace hxu := hxu.via hgn hmb
        have hci := hGu.cellsIn hgn
        replace e0 := hci _ _ _ e0
        replace e1 := hci _ _ _ e1
        replace f0 := hci _ _ _ f0
        replace f1 := hci _ _ _ f1
        replace hGu := hGn
        clear hGn hgn hci
        go_wp2_with (first | (refine BigFrame.wpList_want (by rfl) (fun K hK => wp_load_row 33 _ rfl (B + 1) rfl 33 _ (0, 0) _ (HRD.out _ (by assumption)) Tryd.underlying33 rfl (by kernel_rfl) (hK _ _ ?_)); clear hK K) | (refine BigFrame.wpList_want (by rfl) (fun K hK => wp_load_row 33 _ rfl B rfl 33 _ (0, 0) _ (HRC.out _ (by assumption)) Tryd.underlying33 rfl (by kernel_rfl) (hK _ _ ?_)); clear hK K))
        refine (gput_any nd gb mb M (1, 1) d da capd u2 hGu HOD.out (HT.out _ hxu) HSD.out (HID.out _ hxu)).mono ?_
        rintro e u3 ⟨x3, rfl, hGn, hgn⟩
        rw [HFV.out.c3]
        replace hxu := hxu.via hgn hmb
        have hci := hGu.cellsIn hgn
        replace e0 := hci _ _ _ e0
        replace e1 := hci _ _ _ e1
        replace f0 := hci _ _ _ f0
        replace f1 := hci _ _ _ f1
        replace hGu := hGn
        clear hGn hgn hci
        go_wp2_with (first | (refine BigFrame.wpList_want (by rfl) (fun K hK => wp_load_row 33 _ rfl B rfl 33 _ (0, 0) _ (HRC.out _ (by assumption)) Tryd.underlying33 rfl (by kernel_rfl) (hK _ _ ?_)); clear hK K) | (refine BigFrame.wpList_want (by rfl) (fun K hK => wp_load_row 33 _ rfl (B + 1) rfl 33 _ (0, 0) _ (HRD.out _ (by assumption)) Tryd.underlying33 rfl (by kernel_rfl) (hK _ _ ?_)); clear hK K))
        refine (gput_any 0 gb mb (putTo M (1, 1) d x3) (1, 1) zeroC none 0 u3 hGu zeroC_ok (HT.out _ hxu) zero_small (noArgs _)).mono ?_
        rintro e u4 ⟨x4, rfl, hGn, hgn⟩
        rw [HFV.out.c4 x3]
        replace hxu := hxu.via hgn hmb
        have hci := hGu.cellsIn hgn
        replace e0 := hci _ _ _ e0
        replace e1 := hci _ _ _ e1
        replace f0 := hci _ _ _ f0
        replace f1 := hci _ _ _ f1
        replace hGu := hGn
        clear hGn hgn hci
        go_wp2_with (first | (refine BigFrame.wpList_want (by rfl) (fun K hK => wp_load_row 33 _ rfl B rfl 33 _ (0, 0) _ (HRC.out _ (by assumption)) Tryd.underlying33 rfl (by kernel_rfl) (hK _ _ ?_)); clear hK K) | (refine BigFrame.wpList_want (by rfl) (fun K hK => wp_load_row 33 _ rfl (B + 1) rfl 33 _ (0, 0) _ (HRD.out _ (by assumption)) Tryd.underlying33 rfl (by kernel_rfl) (hK _ _ ?_)); clear hK K))
        refine (gput_any nc gb mb (putTo (putTo M (1, 1) d x3) (1, 1) zeroC x4) (256, 4096) c ca capc u4 hGu HOC.out (HT.out _ hxu) HSC.out (HIC.out _ hxu)).mono ?_
        rintro e u5 ⟨x5, rfl, hGn, hgn⟩
        rw [HFV.out.c5 x3 x4]
        replace hxu := hxu.via hgn hmb
        have hci := hGu.cellsIn hgn
        replace e0 := hci _ _ _ e0
        replace e1 := hci _ _ _ e1
        replace f0 := hci _ _ _ f0
        replace f1 := hci _ _ _ f1
        replace hGu := hGn
        clear hGn hgn hci
        have HL5 : Hid (((putTo (putTo (putTo M (1, 1) d x3) (1, 1) zeroC x4) (256, 4096) c x5).length : Int) = 4096) := Lib.hid (by rw [HFV.out.l5 x3 x4 x5]; rfl)
        go_wp2_with (refine (glen_any gb mb _ _ hGu).mono ?_; rintro e w' ⟨rfl, rfl⟩; rw [HL5.out])
        go_ret
        exact ⟨rfl, HXW.out.trans hxu⟩
end Go.Proofs.YtfpdleljhbkehaaDoor
