import Derived.Test.YtideclfpbpjebaaGreatDoorB21
import Derived.Test.YtideclfpbpjebaaGreatDoorB16
import Derived.Test.YtideclfpbpjebaaGreatDoorB19
namespace Go.Proofs.YtideclfpbpjebaaGreatDoor
section
open Go.RowKit Go.Sort Go.Maps

/-! ### maps.EqualFunc -/
theorem lk_in {c : Ad} {v : Value} : ∀ {E : List (Ad × Value)}, (E.map (·.1)).Nodup → (c, v) ∈ E → lk c E = some v
  | [], _, h => by simp at h
  | x :: r, hn, h => by
    unfold lk
    rw [List.map_cons, List.nodup_cons] at hn
    rcases List.mem_cons.1 h with rfl | h
    · simp
    · have : ¬ x.1 = c := fun e => hn.1 (e ▸ List.mem_map.2 ⟨_, h, rfl⟩)
      simp only [this, if_false]
      exact lk_in hn.2 h
/-- Both have the cell, and the same there. -/
noncomputable def okAt (M1 M2 : GM) (a : Ad) : Bool := match lkM a M1, lkM a M2 with
  | some x, some y => sameCB x.1 y.1
  | _, _ => false
noncomputable def eqMB (M1 M2 : GM) : Bool := decide (M1.length = M2.length) && (M1.map (·.1)).all (okAt M1 M2)
theorem eqMB_len {M1 M2 : GM} (h : ¬ M1.length = M2.length) : eqMB M1 M2 = false := by simp [eqMB, h]
theorem eqMB_no {M1 M2 : GM} {a : Ad} (ha : a ∈ M1.map (·.1)) (h : okAt M1 M2 a = false) : eqMB M1 M2 = false := by
  have : (M1.map (·.1)).all (okAt M1 M2) = false := by
    rw [List.all_eq_false]; exact ⟨a, ha, by simp [h]⟩
  simp [eqMB, this]
theorem eqMB_yes {M1 M2 : GM} (h : M1.length = M2.length) (hk : ∀ a ∈ M1.map (·.1), okAt M1 M2 a = true) : eqMB M1 M2 = true := by
  have : (M1.map (·.1)).all (okAt M1 M2) = true := List.all_eq_true.2 hk
  simp [eqMB, this, h]
/-- A map as a grid has it. -/
structure MapG (w : World) (mb : Nat) (M : GM) : Prop where
  map : ∃ E, MapIs w mb E ∧ (∀ a, lk a E = (lkM a M).map ceV) ∧ E.length = M.length ∧ (E.map (·.1)).Perm (M.map (·.1))
  args : ∀ x ∈ M, ceIn w x.2
theorem GridIs.mapG {w : World} {gb mb : Nat} {M : GM} (h : GridIs w gb mb M) : MapG w mb M := by
  obtain ⟨E, hm, he⟩ := h.map
  exact ⟨⟨E, hm, he, h.len hm he, h.keys hm he⟩, h.args⟩
theorem MapG.xt {w w' : World} {mb : Nat} {M : GM} (h : MapG w mb M) (hx : Xt w w') : MapG w' mb M := by
  obtain ⟨E, hm, r⟩ := h.map
  exact ⟨⟨E, hm.of_heap (hx.block mb hm.lt), r⟩, fun x hx' => (h.args x hx').kept hx.cellsIn⟩
theorem args_up {w : World} : ∀ {n m : Nat} {av : Value} {l : List NodeT}, n ≤ m → ArgsIn w n av l → ArgsIn w m av l
  | 0, 0, _, _, _, h => h
  | 0, m + 1, _, _, _, h => by obtain ⟨rfl, a, cap, rfl, hc⟩ := h; exact ⟨a, cap, rfl, Nat.zero_le _, hc, fun h => absurd rfl h⟩
  | n + 1, 0, _, _, hl, _ => absurd hl (by omega)
  | n + 1, m + 1, _, _, hl, h => by
    obtain ⟨a, cap, rfl, h1, h2, h3⟩ := h
    refine ⟨a, cap, rfl, h1, h2, fun hne => ?_⟩
    obtain ⟨b, off, rfl, hc⟩ := h3 hne
    exact ⟨b, off, rfl, fun k t ht => let ⟨av', q1, q2⟩ := hc k t ht; ⟨av', q1, args_up (by omega) q2⟩⟩
theorem gsame_in {w : World} {x y : CE} (hx : ceIn w x) (hy : ceIn w y) : Calls Tryz.prog 51 #[ceV x, ceV y] w fun e w' => e = .returned (.bool (sameCB x.1 y.1)) ∧ Gr w w' := by
  obtain ⟨_, n, h1⟩ := hx
  obtain ⟨_, m, h2⟩ := hy
  exact gsame_any (max n m) x.1 y.1 x.2 y.2 _ _ w (args_up (Nat.le_max_left ..) h1) (args_up (Nat.le_max_right ..) h2)
set_option maxRecDepth 100000 in
set_option maxHeartbeats 4000000 in
theorem meq_any (b1 b2 : Nat) (M1 M2 : GM) (w : World) (h1 : MapG w b1 M1) (h2 : MapG w b2 M2) :
    Calls Tryz.prog 50 #[.map (some b1), .map (some b2), .func (.func 51) #[] #[]] w fun e w' => e = .returned (.bool (eqMB M1 M2)) ∧ Xt w w' := by
  have H1 := Lib.hid h1
  have H2 := Lib.hid h2
  obtain ⟨E1, hm1, he1, hl1, hp1⟩ := h1.map
  obtain ⟨E2, hm2, he2, hl2, hp2⟩ := h2.map
  have q1 : ∀ ty, (Builtin.len_ #[66] ty #[.map (some b1)]).run Tryz.prog w = .ok (.int .i64 M1.length) w := fun ty => by rw [← hl1]; exact hm1.len Tryz.underlying66
  have q2 : ∀ ty, (Builtin.len_ #[66] ty #[.map (some b2)]).run Tryz.prog w = .ok (.int .i64 M2.length) w := fun ty => by rw [← hl2]; exact hm2.len Tryz.underlying66
  by_cases hl : M1.length = M2.length
  rotate_left
  · have hne : ((M1.length : Int) == (M2.length : Int)) = false := by simp; omega
    have HN := Lib.hid (eqMB_len hl)
    clear hl h1 h2 hm1 he1 hl1 hp1 hm2 he2 hl2 hp2
    go_enter Tryz.func50, Tryz.ntmps50
    go_wp2_with fail
    go_ret
    exact ⟨by rw [HN.out]; rfl, Xt.refl _⟩
  have HL := Lib.hid hl
  have HE1 := Lib.hid he1
  have HE2 := Lib.hid he2
  have HP1 := Lib.hid hp1
  have HND := Lib.hid hm1.nodup
  rw [← hl] at q2
  clear hl h1 h2 he1 hl1 hp1 he2 hl2 hp2
  go_enter Tryz.func50, Tryz.ntmps50
  go_wp2_with (first | (at_range; refine wpList_range_it _ rfl _ 66 36 46 rfl Tryz.underlying66 b1 E1 rfl hm1 ?_; intro w2 hI hg2 hs2; go_frame))
  have HX2 : Hid (Xt w w2) := hg2.xt
  obtain ⟨r, hr⟩ : ∃ r, w.heap.size = r := ⟨_, rfl⟩
  rw [hr] at hI hs2 ⊢
  have HR := Lib.hid hr
  clear hr hg2 hs2 q1 q2
  go_loopg [18] E1.length (fun k _ wr => ∃ left cur ks, left.length = k ∧ Hid ((ks ++ left.map (·.1)).Perm (E1.map (·.1))) ∧ Hid (∀ x ∈ left, x ∈ E1) ∧ IterIs wr r b1 E1 left cur ∧ Hid (∀ a ∈ ks, okAt M1 M2 a = true) ∧ Hid (Xt w wr))
  case atStart => exact ⟨E1, none, [], rfl, by unfold Hid; simp, fun _ h => h, hI, fun _ h => absurd h (by simp), HX2⟩
  case round =>
    clear HX2 hI
    obtain ⟨left, cur, ks, rfl, HP, HIN, hI1, HOK, HX⟩ := hrel
    go_wp2_with (at_next; refine wpList_next_it _ rfl _ rfl _ _ _ _ _ rfl hI1 ?_ ?_)
    · intro hdone
      subst hdone
      go_wp2_with fail
      go_ret
      have hp := HP.out
      simp only [List.map_nil, List.append_nil] at hp
      refine ⟨?_, HX.out⟩
      rw [eqMB_yes HL.out fun a ha => HOK.out a (hp.mem_iff.2 (HP1.out.mem_iff.2 ha))]
      rfl
    · intro c d v l1 l2 w3 hl hI2 hg3 hs3 hen
      have HL3 := Lib.hid hl
      have HP' : Hid (((ks ++ [(c, d)]) ++ (l1 ++ l2).map (·.1)).Perm (E1.map (·.1))) := by
        refine List.Perm.trans ?_ HP.out
        rw [hl]
        simp only [List.map_append, List.map_cons, List.append_assoc, List.singleton_append]
        exact List.Perm.append_left _ List.perm_middle.symm
      have HIN' : Hid (∀ x ∈ l1 ++ l2, x ∈ E1) := fun x hx => HIN.out x (by rw [hl]; rcases List.mem_append.1 hx with h | h <;> simp [h])
      have hlk : lk (c, d) E1 = some v := lk_in HND.out (HIN.out _ (by rw [hl]; simp))
      have hin : (c, d) ∈ M1.map (·.1) := HP1.out.mem_iff.1 (List.mem_map.2 ⟨_, HIN.out ((c, d), v) (by rw [hl]; simp), rfl⟩)
      rw [HE1.out] at hlk
      obtain ⟨x, hx, rfl⟩ := Option.map_eq_some_iff.1 hlk
      have HXM := Lib.hid hx
      have HIM := Lib.hid hin
      have hX3 : Xt w w3 := HX.out.grownB hg3 (fun m hm => by cases hm; rw [HR.out]; exact Nat.le_refl _)
      clear hl hI1 hs3 hg3 hlk hin hx HIN HP
      obtain ⟨wA, hwA, hbA, hsA, kA0, kA1⟩ := box1 w3 c d 36
      obtain ⟨wZ, wB, hwZ, hwB, hrZ, hrB, hxB1, hsB, hxZ, hsZ⟩ := boxR wA x
      rw [hsA] at hrZ hrB hwB
      have hxB : Xt w3 wB := by refine Xt.trans ?_ hxB1; rw [← hwA]; exact (Xt.refl w3).alloc _
      rw [hsA] at hsB
      have hmB := H2.out.xt (hX3.trans hxB)
      obtain ⟨E2', hm2', he2', _, _⟩ := hmB.map
      have hlook := MapIs.lookup_ok (P := Tryz.prog) (t := 66) (k := 36) (e := 46) adrKey Tryz.underlying66 zeroCon hm2' (c, d)
      have hcx : ceIn w (x.1, x.2) := H1.out.args _ (lkM_mem HXM.out)
      have HCX := Lib.hid (fun W (h : Xt w W) => hcx.kept h.cellsIn)
      have HCY := Lib.hid (fun W (y : CE) (hy : lkM (c, d) M2 = some y) (h : Xt w W) => (H2.out.args _ (lkM_mem hy)).kept h.cellsIn)
      have kB0 : wB.cell? ⟨w3.heap.size, 0, none⟩ = some (.int .i64 c) := ((hxB1.cells).1 _ 0 (by omega)).trans kA0
      have kB1 : wB.cell? ⟨w3.heap.size, 1, none⟩ = some (.int .i64 d) := ((hxB1.cells).1 _ 1 (by omega)).trans kA1
      rw [he2'] at hlook
      have HRB := Lib.hid hrB
      have HXB := Lib.hid hxB
      have HX3 := Lib.hid hX3
      have HRZ := Lib.hid hrZ
      have HWB := Lib.hid hwB
      clear hmB hm2' he2' hcx hrB hxB hX3 hbA kA0 kA1 hrZ hwB hxB1 hxZ
      cases hy : lkM (c, d) M2 with
      | none =>
        rw [hy] at hlook
        have hlk2 : (Instr.lookup 66 (.map (some b2)) (.agg #[.int .i64 c, .int .i64 d]) true).run Tryz.prog wB = .ok (.tuple #[contV zeroC none 0 0, .bool false]) wB := hlook
        have HNO : Hid (eqMB M1 M2 = false) := eqMB_no HIM.out (by unfold okAt; rw [HXM.out, hy])
        obtain ⟨wN, wE, hwN, hwE, hrN, hrE, hxE, hsE, hxN, hsN⟩ := boxR wB (zeroC, none)
        rw [hsB] at hrN hwE
        have HRN := Lib.hid hrN
        have HWN := Lib.hid hwE
        have HXE := Lib.hid (HX3.out.trans (HXB.out.trans hxE))
        clear hlook hy hrN hwE hrE hxE hxN
        go_wp2_with (first | (refine wpList_store_row (P := Tryz.prog) rfl 46 _ _ rfl (w3.heap.size + 1) #[.int .i64 x.1.kind, .int .i64 x.1.v.kind, .float .f64 x.1.v.x, .string x.1.v.s, .bool x.1.v.b, .int .i64 x.1.v.f, .int .i64 x.1.t.kind, .int .i64 x.1.t.op, .float .f64 x.1.t.x, .string x.1.t.s, .bool x.1.t.b, .int .i64 x.1.t.f, .int .i64 x.1.t.ref.a.1, .int .i64 x.1.t.ref.a.2, .bool x.1.t.ref.cf, .bool x.1.t.ref.rf, .int .i64 x.1.t.to.a.1, .int .i64 x.1.t.to.a.2, .bool x.1.t.to.cf, .bool x.1.t.to.rf, .slice x.2 x.1.t.args.length x.1.t.args.length] rfl rfl 46 _ HRZ.out (by kernel_rfl) rfl (by simp [Value.oneCell']) ?_; rw [HWB.out]) | (refine wpList_store_row (P := Tryz.prog) rfl 46 _ _ rfl (w3.heap.size + 2) #[.int .i64 zeroC.kind, .int .i64 zeroC.v.kind, .float .f64 zeroC.v.x, .string zeroC.v.s, .bool zeroC.v.b, .int .i64 zeroC.v.f, .int .i64 zeroC.t.kind, .int .i64 zeroC.t.op, .float .f64 zeroC.t.x, .string zeroC.t.s, .bool zeroC.t.b, .int .i64 zeroC.t.f, .int .i64 zeroC.t.ref.a.1, .int .i64 zeroC.t.ref.a.2, .bool zeroC.t.ref.cf, .bool zeroC.t.ref.rf, .int .i64 zeroC.t.to.a.1, .int .i64 zeroC.t.to.a.2, .bool zeroC.t.to.cf, .bool zeroC.t.to.rf, .slice none zeroC.t.args.length zeroC.t.args.length] rfl rfl 46 _ HRN.out (by kernel_rfl) rfl (by simp [Value.oneCell']) ?_; rw [HWN.out]))
        go_ret
        exact ⟨by rw [HNO.out]; rfl, HXE.out⟩
      | some y =>
        rw [hy] at hlook
        have hlk2 : (Instr.lookup 66 (.map (some b2)) (.agg #[.int .i64 c, .int .i64 d]) true).run Tryz.prog wB = .ok (.tuple #[ceV y, .bool true]) wB := hlook
        obtain ⟨wN, wE, hwN, hwE, hrN, hrE, hxE, hsE, hxN, hsN⟩ := boxR wB y
        rw [hsB] at hrN hwE hrE
        have HRN := Lib.hid hrN
        have HWN := Lib.hid hwE
        have hrB2 := (hxE.block (w3.heap.size + 1) (by omega)).trans HRB.out
        have HRX := Lib.hid hrB2
        have HRY := Lib.hid hrE
        have HXE := Lib.hid (HX3.out.trans (HXB.out.trans hxE))
        have HC := Lib.hid (gsame_in (HCX.out _ HXE.out) (HCY.out _ y hy HXE.out))
        have HOKA : Hid (okAt M1 M2 (c, d) = sameCB x.1 y.1) := by unfold Hid okAt; rw [HXM.out, hy]
        have hIE := hI2.of_heap (w' := wE) (((HXB.out.trans hxE).block b1 hI2.map.lt)) ((HXB.out.trans hxE).block r hI2.lt)
        clear hlook hy hrE hxE hrB2 hI2 hrN hwE hxN
        cases hsm : sameCB x.1 y.1
        · rw [hsm] at HC HOKA
          go_wp2_with (first
            | (refine wpList_store_row (P := Tryz.prog) rfl 46 _ _ rfl (w3.heap.size + 1) #[.int .i64 x.1.kind, .int .i64 x.1.v.kind, .float .f64 x.1.v.x, .string x.1.v.s, .bool x.1.v.b, .int .i64 x.1.v.f, .int .i64 x.1.t.kind, .int .i64 x.1.t.op, .float .f64 x.1.t.x, .string x.1.t.s, .bool x.1.t.b, .int .i64 x.1.t.f, .int .i64 x.1.t.ref.a.1, .int .i64 x.1.t.ref.a.2, .bool x.1.t.ref.cf, .bool x.1.t.ref.rf, .int .i64 x.1.t.to.a.1, .int .i64 x.1.t.to.a.2, .bool x.1.t.to.cf, .bool x.1.t.to.rf, .slice x.2 x.1.t.args.length x.1.t.args.length] rfl rfl 46 _ HRZ.out (by kernel_rfl) rfl (by simp [Value.oneCell']) ?_; rw [HWB.out])
            | (refine wpList_store_row (P := Tryz.prog) rfl 46 _ _ rfl (w3.heap.size + 2) #[.int .i64 y.1.kind, .int .i64 y.1.v.kind, .float .f64 y.1.v.x, .string y.1.v.s, .bool y.1.v.b, .int .i64 y.1.v.f, .int .i64 y.1.t.kind, .int .i64 y.1.t.op, .float .f64 y.1.t.x, .string y.1.t.s, .bool y.1.t.b, .int .i64 y.1.t.f, .int .i64 y.1.t.ref.a.1, .int .i64 y.1.t.ref.a.2, .bool y.1.t.ref.cf, .bool y.1.t.ref.rf, .int .i64 y.1.t.to.a.1, .int .i64 y.1.t.to.a.2, .bool y.1.t.to.cf, .bool y.1.t.to.rf, .slice y.2 y.1.t.args.length y.1.t.args.length] rfl rfl 46 _ HRN.out (by kernel_rfl) rfl (by simp [Value.oneCell']) ?_; rw [HWN.out])
            | (refine BigFrame.wpList_want (by rfl) (fun K hK => wp_load_row 46 _ rfl (w3.heap.size + 1) rfl 46 _ (0, 0) _ HRX.out Tryz.underlying46 rfl (by kernel_rfl) (hK _ _ ?_)); clear hK K)
            | (refine BigFrame.wpList_want (by rfl) (fun K hK => wp_load_row 46 _ rfl (w3.heap.size + 2) rfl 46 _ (0, 0) _ HRY.out Tryz.underlying46 rfl (by kernel_rfl) (hK _ _ ?_)); clear hK K)
            | (refine (HC.out).mono ?_; rintro e w6 ⟨rfl, hg6⟩; have HG6 := Lib.hid hg6; clear hg6))
          go_ret
          exact ⟨by rw [eqMB_no HIM.out HOKA.out]; rfl, HXE.out.trans HG6.out.xt⟩
        · rw [hsm] at HC HOKA
          go_wp2_with (first
            | (refine wpList_store_row (P := Tryz.prog) rfl 46 _ _ rfl (w3.heap.size + 1) #[.int .i64 x.1.kind, .int .i64 x.1.v.kind, .float .f64 x.1.v.x, .string x.1.v.s, .bool x.1.v.b, .int .i64 x.1.v.f, .int .i64 x.1.t.kind, .int .i64 x.1.t.op, .float .f64 x.1.t.x, .string x.1.t.s, .bool x.1.t.b, .int .i64 x.1.t.f, .int .i64 x.1.t.ref.a.1, .int .i64 x.1.t.ref.a.2, .bool x.1.t.ref.cf, .bool x.1.t.ref.rf, .int .i64 x.1.t.to.a.1, .int .i64 x.1.t.to.a.2, .bool x.1.t.to.cf, .bool x.1.t.to.rf, .slice x.2 x.1.t.args.length x.1.t.args.length] rfl rfl 46 _ HRZ.out (by kernel_rfl) rfl (by simp [Value.oneCell']) ?_; rw [HWB.out])
            | (refine wpList_store_row (P := Tryz.prog) rfl 46 _ _ rfl (w3.heap.size + 2) #[.int .i64 y.1.kind, .int .i64 y.1.v.kind, .float .f64 y.1.v.x, .string y.1.v.s, .bool y.1.v.b, .int .i64 y.1.v.f, .int .i64 y.1.t.kind, .int .i64 y.1.t.op, .float .f64 y.1.t.x, .string y.1.t.s, .bool y.1.t.b, .int .i64 y.1.t.f, .int .i64 y.1.t.ref.a.1, .int .i64 y.1.t.ref.a.2, .bool y.1.t.ref.cf, .bool y.1.t.ref.rf, .int .i64 y.1.t.to.a.1, .int .i64 y.1.t.to.a.2, .bool y.1.t.to.cf, .bool y.1.t.to.rf, .slice y.2 y.1.t.args.length y.1.t.args.length] rfl rfl 46 _ HRN.out (by kernel_rfl) rfl (by simp [Value.oneCell']) ?_; rw [HWN.out])
            | (refine BigFrame.wpList_want (by rfl) (fun K hK => wp_load_row 46 _ rfl (w3.heap.size + 1) rfl 46 _ (0, 0) _ HRX.out Tryz.underlying46 rfl (by kernel_rfl) (hK _ _ ?_)); clear hK K)
            | (refine BigFrame.wpList_want (by rfl) (fun K hK => wp_load_row 46 _ rfl (w3.heap.size + 2) rfl 46 _ (0, 0) _ HRY.out Tryz.underlying46 rfl (by kernel_rfl) (hK _ _ ?_)); clear hK K)
            | (refine (HC.out).mono ?_; rintro e w6 ⟨rfl, hg6⟩; have HG6 := Lib.hid hg6; clear hg6))
          have hI6 := hIE.of_heap (w' := w6) (HG6.out.xt.block b1 hIE.map.lt) (HG6.out.xt.block r hIE.lt)
          go_roundg (l1 ++ l2).length
          case rel => exact ⟨l1 ++ l2, _, ks ++ [(c, d)], rfl, HP', HIN', hI6, fun a ha => by rcases List.mem_append.1 ha with h | h; exact HOK.out a h; rw [List.mem_singleton.1 h]; exact HOKA.out, HXE.out.trans HG6.out.xt⟩
          case measure => rw [HL3.out]; simp
end
section
open Go.RowKit Go.Sort Go.Maps Go.Shelf

/-! ### the cells of both; what differs -/
theorem sorted_ext : ∀ {l k : List Ad}, l.Pairwise (fun x y => adLt x y = true) → k.Pairwise (fun x y => adLt x y = true) → (∀ a, a ∈ l ↔ a ∈ k) → l = k := fun {l k} hl hk h => by
  have nd : ∀ {l : List Ad}, l.Pairwise (fun x y => adLt x y = true) → l.Nodup := fun hl => hl.imp fun {a b} hlt e => by rw [e, adLt_irrefl] at hlt; cases hlt
  have hp : l.Perm k := (List.perm_ext_iff_of_nodup (nd hl) (nd hk)).2 h
  exact (sortL_of hl hp.symm).symm.trans (sortL_of hk (List.Perm.refl _))
theorem setM_key {a : Ad} {m : List (Ad × Unit)} {b : Ad} : b ∈ (setM a () m).map (·.1) ↔ b = a ∨ b ∈ m.map (·.1) := by
  rw [← lkM_mem_iff, ← lkM_mem_iff, lkM_set]
  by_cases h : a = b
  · simp [h]
  · have : ¬ b = a := fun e => h e.symm
    simp [h, this]
theorem unit_sorted {M : GM} (h : SortedM M) : SortedM (M.map fun x => (x.1, ())) := by
  unfold SortedM at *
  rw [List.pairwise_map]
  exact h
theorem fold_keys : ∀ (M : GM) (m : List (Ad × Unit)), SortedM m → SortedM (M.foldl (fun m x => setM x.1 () m) m) ∧ (∀ b, b ∈ (M.foldl (fun m x => setM x.1 () m) m).map (·.1) ↔ b ∈ m.map (·.1) ∨ b ∈ M.map (·.1)) ∧ (M.foldl (fun m x => setM x.1 () m) m).length ≤ m.length + M.length
  | [], m, h => ⟨h, fun b => by simp, by simp⟩
  | x :: r, m, h => by
    obtain ⟨h1, h2, h3⟩ := fold_keys r (setM x.1 () m) (sorted_setM _ _ h)
    refine ⟨h1, fun b => ?_, ?_⟩
    · rw [List.foldl_cons, h2 b, setM_key, List.map_cons, List.mem_cons]
      constructor
      · rintro ((h | h) | h)
        · exact Or.inr (Or.inl h)
        · exact Or.inl h
        · exact Or.inr (Or.inr h)
      · rintro (h | h | h)
        · exact Or.inl (Or.inr h)
        · exact Or.inl (Or.inl h)
        · exact Or.inr h
    · rw [List.foldl_cons, List.length_cons]
      have := len_setM_le (a := x.1) (l := ()) (M := m)
      omega
def unionK (M1 M2 : GM) : List Ad := (M2.foldl (fun m x => setM x.1 () m) (M1.map fun x => (x.1, ()))).map (·.1)
theorem unionK_sorted {M1 : GM} (h : SortedM M1) (M2 : GM) : (unionK M1 M2).Pairwise (fun x y => adLt x y = true) := by
  unfold unionK
  rw [List.pairwise_map]
  exact (fold_keys M2 _ (unit_sorted h)).1
theorem unionK_mem {M1 : GM} (h : SortedM M1) (M2 : GM) (a : Ad) : a ∈ unionK M1 M2 ↔ a ∈ M1.map (·.1) ∨ a ∈ M2.map (·.1) := by
  unfold unionK
  rw [(fold_keys M2 _ (unit_sorted h)).2.1 a, List.map_map]; rfl
theorem unionK_len {M1 : GM} (h : SortedM M1) (M2 : GM) : (unionK M1 M2).length ≤ M1.length + M2.length := by
  unfold unionK
  rw [List.length_map]
  have := (fold_keys M2 _ (unit_sorted h)).2.2
  simpa using this
abbrev getM (M : GM) (a : Ad) : CE := (lkM a M).getD (zeroC, none)
noncomputable def diffAt (M1 M2 : GM) (a : Ad) : Bool := !sameCB (getM M1 a).1 (getM M2 a).1
noncomputable def putsK (M1 M2 : GM) (l : List Ad) : List (Ad × ContT) := (l.filter (diffAt M1 M2)).map (fun a => (a, copyC (getM M2 a).1))
theorem putsK_len (M1 M2 : GM) (l : List Ad) : (putsK M1 M2 l).length ≤ l.length := by
  unfold putsK
  rw [List.length_map]
  exact List.length_filter_le ..
theorem putsK_yes {M1 M2 : GM} {l : List Ad} {i : Nat} {a : Ad} (h : l[i]? = some a) (hd : sameCB (getM M1 a).1 (getM M2 a).1 = false) : putsK M1 M2 (l.take (i + 1)) = putsK M1 M2 (l.take i) ++ [(a, copyC (getM M2 a).1)] := by
  unfold putsK
  rw [List.take_add_one, h]; simp [diffAt, hd]
theorem putsK_no {M1 M2 : GM} {l : List Ad} {i : Nat} {a : Ad} (h : l[i]? = some a) (hd : sameCB (getM M1 a).1 (getM M2 a).1 = true) : putsK M1 M2 (l.take (i + 1)) = putsK M1 M2 (l.take i) := by
  unfold putsK
  rw [List.take_add_one, h]; simp [diffAt, hd]
end
section
open Go.RowKit Go.Sort Go.Maps Go.Shelf
attribute [local go_sem] Oper.semAt_some

/-! ### slices.AppendSeq, slices.Collect, slices.SortedFunc -/
theorem OwnL.own_from {α : Type} {enc : α → List Value} {X Y : World} {base : Nat} {e : TypeId} {size : Nat} {v : Value} {l : List α} {row : Option Nat} (h : OwnL X base e size enc v l) (hg : X.grownBy Y row) (hr : ∀ r, row = some r → ∃ o : Obj, X.heap[r]? = some o ∧ o.isCells = false) : OwnL Y base e size enc v l := by
  refine World.ownsRow.kept h hg ?_
  rcases h.2 with ⟨rfl, _⟩ | ⟨g, cap, cur, rfl, _, hgb, _⟩
  · exact .inl rfl
  · refine .inr fun e' => ?_
    obtain ⟨o, ho, hc⟩ := hr g (by simpa [Value.ownBlock] using e'.symm)
    rw [hgb] at ho; cases ho; cases hc
theorem infoAd : (Tryz.prog.info? 36).map (fun i => (i.zero, i.size, i.bytes)) = some (some (.agg #[.int .i64 0, .int .i64 0]), 2, 16) := by kernel_rfl
set_option maxRecDepth 100000 in
set_option maxHeartbeats 4000000 in
theorem appendSeq_in (g : Nat) (lb : Array Value) (eg : ∀ args w, (callFunc g args).run Tryz.prog w = .ok (.enter g args) w) (S Sp : List Ad → Prop) (N : Nat) (hN : N ≤ 8192) (n : Nat) (hn : 2 ≤ n) (w : World) (hseq : SeqStopsK Fence.wide (n - 1) Tryz.prog g lb (fun x : Ad => #[adW x]) KeepsWalks S Sp N w) :
    CallsIn Fence.wide n Tryz.prog 102 #[.slice none 0 0, .func (.func g) #[] lb] w fun e w' => ∃ (v : Value) (ks : List Ad), e = .returned v ∧ S ks ∧ OwnL w' w.heap.size 36 2 adC v ks ∧ Below w.heap.size w w' := by
  obtain ⟨i0, hi, hz0, hz1, hz2⟩ := info_parts infoAd
  refine callsIn_of_wp_marks Tryz.func102 rfl trivial ?_ rfl
  simp only [Tryz.ntmps102, List.size_toArray, List.length_cons, List.length_nil, Nat.reduceAdd, Nat.reduceSub, Array.replicate_succ, Array.replicate_zero, List.push_toArray, List.append_toArray, List.nil_append, List.cons_append]
  gi_wp2
  obtain ⟨W0, hW0⟩ : ∃ W0, w.alloc (.cells #[.slice none 0 0] 98) = W0 := ⟨_, rfl⟩
  have bS : Boxed W0 w.heap.size 98 (.slice none 0 0) := by rw [← hW0]; exact Boxed.new w _ _
  have hB0 : Below w.heap.size w W0 := by rw [← hW0]; exact (Below.refl _ w).alloc (Nat.le_refl _) _
  have hsz : W0.heap.size = w.heap.size + 1 := by rw [← hW0]; simp
  rw [hW0]
  clear hW0
  refine wpIn_rangeFunc_ownH (F := Fence.wide) rfl (by omega) (gf := g) (lb := lb) rfl trivial eg hseq walksK_t walksK_b hB0 (fun _ => rfl)
    (fun pre W => (∃ v, Boxed W w.heap.size 98 v ∧ OwnL W w.heap.size 36 2 adC v pre) ∧ Below w.heap.size w W)
    (fun _ _ _ => False)
    (OwnFrom.and (fun s X Y row hs hg hr => by
      obtain ⟨v, hv, ho⟩ := hs
      exact ⟨v, boxed_own w.heap.size 98 (fun (_ : Unit) => v) () X Y row hv hg (fun r e => (hr r e).2), ho.own_from hg (fun r e => (hr r e).2)⟩) (ownFrom_below (Nat.le_refl _) (by omega)))
    (fun _ _ _ _ _ hs _ _ => hs)
    ⟨⟨_, bS, World.ownsRow_nil _ _ _ _⟩, hB0⟩
    (fun x a' W => ∃ Bx, W.heap[Bx]? = some (.cells #[.int .i64 x.1, .int .i64 x.2] 36 (0, 0)) ∧ a' = { tmps := #[.slice none 0 0, .func (.func g) #[] lb, .pointer (some ⟨w.heap.size, 0, none⟩), undef, .slice none 0 0, .pointer (some ⟨Bx, 0, none⟩), .func (.func g) #[] lb, .agg #[.int .i64 x.1, .int .i64 x.2], undef, undef, undef, undef, undef], defers := [] })
    (fun x a' _ X Y row hs hg hr => by
      obtain ⟨Bx, h1, h2⟩ := hs
      refine ⟨Bx, (hg.block Bx (Array.getElem?_eq_some_iff.1 h1).1 (fun e => ?_)).trans h1, h2⟩
      obtain ⟨_, o, ho, hc⟩ := hr Bx e.symm
      rw [h1] at ho; cases ho; cases hc)
    ?assign ?body ?done ?stop
  case assign =>
    rintro l pre x W K ⟨⟨v, hv, ho⟩, hB⟩ hK
    gi_wp2
    exact hK _ _ ((KeepsOthers.alloc _ _).from _) (KeepsWalks.alloc _ _) ⟨⟨v, hv.alloc _, ho.alloc _⟩, hB.alloc hB.size _⟩ ⟨W.heap.size, World.alloc_heap_new W _, rfl⟩
  case body =>
    rintro l pre x a' W hl ⟨r, hr⟩ ⟨⟨v, hv, ho⟩, hB⟩ ⟨Bx, hBx, rfl⟩ hlt
    have hc0 : W.cell? ⟨Bx, 0, none⟩ = some (.int .i64 x.1) := by simp [World.cell?, hBx]
    have hc1 : W.cell? ⟨Bx, 1, none⟩ = some (.int .i64 x.2) := by simp [World.cell?, hBx]
    have hcv := hv.cell
    have hle := hB.size
    gi_wp2_with (first
      | (gi_at_builtin; refine wpListIn_append_own _ rfl _ _ 98 rfl w.heap.size 36 i0 _ 2 16 Tryz.underlying98 hi hz0 hz1 hz2 rfl (by decide) _ _ _ rfl (World.ownsRow.alloc (w := W) ho _) ⟨W.heap.size, 0, none⟩ 1 1 [.int .i64 x.1, .int .i64 x.2] rfl rfl (news_at W [.int .i64 x.1, .int .i64 x.2] 36 rfl) (adC_one x) (by unfold maxLen; omega) (by omega) (by simp; omega) ?_; intro v' w1 hown' hgrow _; obtain ⟨g', cap', rfl⟩ := ownsRow_succ hown'; obtain ⟨hv1, hv2, hr2, hk2, hb2⟩ := hv.appended (by decide) ho hle (Nat.le_refl _) hown' hgrow; have hc1' := hv1.cell; have hf1 := hv1.frozen)
      | gi_in)
    exact ⟨hk2.from _, ⟨hk2.size, fun k o hk hw => hk2.same k o hk (Obj.not_cells_of_walk hw)⟩, ⟨_, hv2, by unfold OwnL; simpa [adC] using hr2⟩, hB.trans hb2⟩
  case done =>
    rintro D xs W hD hS ⟨⟨v, hv, ho⟩, hB⟩ hK
    have hcv := hv.cell
    gi_wp2
    refine ⟨by simp, .inl ⟨_, _, rfl, run_takeDeferred hK, ?_⟩⟩
    exact ⟨_, results_tmp rfl _ _ _, v, xs, rfl, hS, ho.own_from (grownBy_putObj' W D _) (fun r e => by cases e; exact ⟨_, hK, rfl⟩), hB.trans (belowK_b (w := w) (Nat.le_refl _) W D _ _ (by omega) hK rfl rfl)⟩
  case stop =>
    rintro D c pre W hD hS hF
    exact hF.elim
set_option maxRecDepth 100000 in
set_option maxHeartbeats 2000000 in
theorem collect_in (g : Nat) (lb : Array Value) (eg : ∀ args w, (callFunc g args).run Tryz.prog w = .ok (.enter g args) w) (S Sp : List Ad → Prop) (N : Nat) (hN : N ≤ 8192) (n : Nat) (hn : 3 ≤ n) (w : World) (hseq : SeqStopsK Fence.wide (n - 1 - 1) Tryz.prog g lb (fun x : Ad => #[adW x]) KeepsWalks S Sp N w) :
    CallsIn Fence.wide n Tryz.prog 78 #[.func (.func g) #[] lb] w fun e w' => ∃ (v : Value) (ks : List Ad), e = .returned v ∧ S ks ∧ OwnL w' w.heap.size 36 2 adC v ks ∧ Below w.heap.size w w' := by
  refine callsIn_of_wp Tryz.func78 rfl trivial ?_ rfl
  simp only [Tryz.ntmps78, List.size_toArray, List.length_cons, List.length_nil, Nat.reduceAdd, Nat.reduceSub, Array.replicate_succ, Array.replicate_zero, List.push_toArray, List.append_toArray, List.nil_append, List.cons_append]
  have h1 : 1 ≤ n := by omega
  have hf : Fence.wide.fn 102 := trivial
  gi_wp2_with (gi_at_call 102; refine (appendSeq_in g lb eg S Sp N hN (n - 1) (by omega) w hseq).mono ?_; rintro e w' ⟨v, ks, rfl, hS, ho, hb⟩)
  go_ret
  exact ⟨v, ks, rfl, hS, ho, hb⟩
set_option maxRecDepth 100000 in
set_option maxHeartbeats 2000000 in
theorem sortedFunc_in (g : Nat) (lb : Array Value) (eg : ∀ args w, (callFunc g args).run Tryz.prog w = .ok (.enter g args) w) (S Sp : List Ad → Prop) (N : Nat) (hN : N ≤ 8192) (hSN : ∀ ks, S ks → ks.length ≤ 8192) (n : Nat) (hn : 4 ≤ n) (w : World) (hseq : SeqStopsK Fence.wide (n - 1 - 1 - 1) Tryz.prog g lb (fun x : Ad => #[adW x]) KeepsWalks S Sp N w) :
    CallsIn Fence.wide n Tryz.prog 53 #[.func (.func g) #[] lb, .func (.func 55) #[] #[]] w fun e w' => ∃ (v : Value) (ks : List Ad), e = .returned v ∧ S ks ∧ OwnL w' w.heap.size 36 2 adC v (sortL adLt ks) ∧ Below w.heap.size w w' := by
  refine callsIn_of_wp Tryz.func53 rfl trivial ?_ rfl
  simp only [Tryz.ntmps53, List.size_toArray, List.length_cons, List.length_nil, Nat.reduceAdd, Nat.reduceSub, Array.replicate_succ, Array.replicate_zero, List.push_toArray, List.append_toArray, List.nil_append, List.cons_append]
  have h1 : 1 ≤ n := by omega
  have hf : Fence.wide.fn 78 := trivial
  have hf2 : Fence.wide.fn 79 := trivial
  gi_wp2_with (gi_at_call 78; refine (collect_in g lb eg S Sp N hN (n - 1) (by omega) w hseq).mono ?_; rintro e w1 ⟨v, ks, rfl, hS, ho, hb⟩)
  have hl := hSN ks hS
  have hcs := callsIn_wide (n := n - 1).2 (sortAd_own ho (by omega))
  gi_wp2_with (gi_at_call 79; refine hcs.mono ?_; rintro e w2 ⟨rfl, ho2, hg2⟩)
  go_ret
  exact ⟨v, ks, rfl, hS, ho2, Below.grown hb hg2 hb.size (fun k hk => (World.ownsRow.lt ho k hk).1)⟩

/-! ### (*Grid).some$1: the iterator over a grid (made by mksome.py) -/
theorem GridIs.sorted_keys {w : World} {gb mb : Nat} {M : GM} {E : List (Ad × Value)} (h : GridIs w gb mb M) (hm : MapIs w mb E) (he : ∀ a, lk a E = (lkM a M).map ceV) {ks : List Ad} (hk : ks.Perm (E.map (·.1))) : sortL adLt ks = M.map (·.1) :=
  sortL_of (by rw [List.pairwise_map]; exact h.sorted) (hk.trans (h.keys hm he))
theorem lkM_at {α : Type} {M : List (Ad × α)} (hs : SortedM M) {i : Nat} {x : Ad × α} (hx : M[i]? = some x) : lkM x.1 M = some x.2 := by
  induction M generalizing i with
  | nil => simp at hx
  | cons y r ih =>
    obtain ⟨h1, h2⟩ := List.pairwise_cons.1 hs
    cases i with
    | zero => simp at hx; subst hx; simp [lkM]
    | succ i =>
      simp only [List.getElem?_cons_succ] at hx
      have hm := List.mem_of_getElem? hx
      have hne : ¬ y.1 = x.1 := fun e => by have := h1 x hm; rw [e, adLt_irrefl] at this; cases this
      simp only [lkM, hne, if_false]
      exact ih h2 hx
theorem told_yes {M : GM} {wb : Ad → Bool} {pre : List TE} {i : Nat} {x : Ad × CE} {a' : Option Addr} (h : toldS (M.take i) wb pre) (hx : M[i]? = some x) (hw : wb x.1 = true) : toldS (M.take (i + 1)) wb (pre ++ [(x.1, x.2.1, a')]) := by
  unfold toldS at *
  rw [List.take_add_one, hx, List.map_append, h]; simp [hw]
theorem told_no {M : GM} {wb : Ad → Bool} {pre : List TE} {i : Nat} {x : Ad × CE} (h : toldS (M.take i) wb pre) (hx : M[i]? = some x) (hw : wb x.1 = false) : toldS (M.take (i + 1)) wb pre := by
  unfold toldS at *
  rw [List.take_add_one, hx, h]; simp [hw]
theorem told_len {M : GM} {wb : Ad → Bool} {pre : List TE} (h : toldS M wb pre) : pre.length ≤ M.length := by
  have := congrArg List.length h
  simp only [List.length_map] at this
  rw [this]
  exact List.length_filter_le ..
section
variable {F : Fence} {n : Nat} {P : Program} {md : Region.Mode} {ops : Array Oper} {Q : Exit → Act → World → Prop} {fuel : Nat} {listed : Array Bool} {a a' : Act} {w : World} {o q : Oper}
theorem rdI (i : Nat) (h : ∀ K' : Act → World → Prop, (∀ a w, wpAnyIn F n P md ops Q fuel (listed.setIfInBounds i true) a w → K' a w) → if Region.wanted o (yielded ops a.tmps) = true then Oper.wpIn F n P o a w K' Q else (∀ f, o.about P w a.eval = some f → F.fn f) ∧ K' (a.put o.dst undef) w)
    (ho : ops[i]? = some o := by rfl) (hr : Region.ready md ops listed = [i] := by decide +kernel) : wpAnyIn F n P md ops Q (fuel + 1) listed a w :=
  wpAnyIn_ready hr (by simp) (AllReadyIn.cons ho h AllReadyIn.nil)
theorem rdI2 (i j : Nat) (h : ∀ K' : Act → World → Prop, (∀ a w, wpAnyIn F n P md ops Q fuel (listed.setIfInBounds i true) a w → K' a w) → if Region.wanted o (yielded ops a.tmps) = true then Oper.wpIn F n P o a w K' Q else (∀ f, o.about P w a.eval = some f → F.fn f) ∧ K' (a.put o.dst undef) w)
    (h' : ∀ K' : Act → World → Prop, (∀ a w, wpAnyIn F n P md ops Q fuel (listed.setIfInBounds j true) a w → K' a w) → if Region.wanted q (yielded ops a.tmps) = true then Oper.wpIn F n P q a w K' Q else (∀ f, q.about P w a.eval = some f → F.fn f) ∧ K' (a.put q.dst undef) w)
    (ho : ops[i]? = some o := by rfl) (ho' : ops[j]? = some q := by rfl) (hr : Region.ready md ops listed = [i, j] := by decide +kernel) : wpAnyIn F n P md ops Q (fuel + 1) listed a w :=
  wpAnyIn_ready hr (by simp) (AllReadyIn.cons ho h (AllReadyIn.cons ho' h' AllReadyIn.nil))
theorem koI {K : Act → World → Prop} (hK : ∀ a w, wpAnyIn F n P md ops Q fuel listed a w → K a w) (h : wpAnyIn F n P md ops Q fuel listed a' w) (ha : a = a' := by first | (simp only [Act.put, nm]; done) | (simp only [Act.put, nm]; rfl) | rfl) : K a w := by
  subst ha
  exact hK _ _ h
theorem tkI (i : Nat) {v : Value} (h : wpAnyIn F n P md ops Q fuel (listed.setIfInBounds i true) a' w) (hro : F.round = none := by rfl)
    (hi : ops[i]? = some o := by rfl) (hs : Region.noSelect ops = true := by kernel_rfl) (hf : Region.free md ops listed i = true := by kernel_rfl) (hr : (Region.ready md ops listed).contains i = true := by kernel_rfl)
    (hQ : ∀ c a w, Q (.panic c) (a.put o.dst v) w → Q (.panic c) a w := by exact fun _ _ _ h => h) (hw : Region.wanted o (yielded ops a.tmps) = true := by rfl)
    (hy : ∀ w, (execOp a.eval o).run P w = .ok (.value v) w := by (intro w; go_simp; first | done | with_reducible rfl)) (hab : ∀ w, o.about P w a.eval = none := by exact fun _ => rfl)
    (ha : a.put o.dst v = a' := by (simp only [Act.put, nm]; try rfl)) : wpAnyIn F n P md ops Q (fuel + 1) listed a w := by
  subst ha
  exact wpAnyIn_take hro hi hs hf hr hQ ⟨Or.inl ⟨hw, hy⟩, hab⟩ h
theorem skI (i : Nat) (h : wpAnyIn F n P md ops Q fuel (listed.setIfInBounds i true) a' w) (hro : F.round = none := by rfl)
    (hi : ops[i]? = some o := by rfl) (hs : Region.noSelect ops = true := by kernel_rfl) (hf : Region.free md ops listed i = true := by kernel_rfl) (hr : (Region.ready md ops listed).contains i = true := by kernel_rfl)
    (hQ : ∀ c a w, Q (.panic c) (a.put o.dst undef) w → Q (.panic c) a w := by exact fun _ _ _ h => h) (hw : Region.wanted o (yielded ops a.tmps) = false := by rfl) (hab : ∀ w, o.about P w a.eval = none := by exact fun _ => rfl)
    (ha : a.put o.dst undef = a' := by (simp only [Act.put, nm]; try rfl)) : wpAnyIn F n P md ops Q (fuel + 1) listed a w := by
  subst ha
  exact wpAnyIn_take hro hi hs hf hr hQ ⟨Or.inr ⟨hw, rfl⟩, hab⟩ h
end
set_option maxRecDepth 100000 in
set_option maxHeartbeats 4000000 in
theorem some1_in (A : Nat → Bool) (wf : Nat) (wl : Array Value) (ew : ∀ args w, (callFunc wf args).run Tryz.prog w = .ok (.enter wf args) w) (wb : Ad → Bool) (n₀ : Nat) (R : World → World → Prop) (hRx : ∀ {X Y : World}, n₀ ≤ X.heap.size → Xt X Y → R X Y) (hRt : ∀ {X Y Z : World}, R X Y → R Y Z → R X Z) (Wk : World → Prop) (hWk : ∀ W W', Wk W → R W W' → KeepsT A W W' → Wk W') (hwant : ∀ (a : Ad) (W : World), Wk W → Calls Tryz.prog wf (#[adW a] ++ wl) W fun e W' => e = .returned (.bool (wb a)) ∧ Gr W W')
    (n : Nat) (hn : 8 ≤ n) (l Bg Bw gb mb : Nat) (M : GM) (J Jx : List TE → World → Prop) (W : World) (hnW : n₀ ≤ W.heap.size) (hG : GridIs W gb mb M) (hRa : ∀ W', R W W' → ∀ x ∈ M, ceIn W' x.2) (hA0 : A (2 * W.heap.size + 1) = false) (hWkW : Wk W) (hJ : AbidesFrom W.heap.size J)
    (hcg : W.cell? ⟨Bg, 0, none⟩ = some (.pointer (some ⟨gb, 0, none⟩))) (hcw : W.heap[Bw]? = some (.cells #[.func (.func wf) #[] wl] 86 (0, 0)))
    (hY : ∀ pre x W1, J pre W1 → (∃ V, J pre V ∧ toldN M wb pre V x W1) → pre.length < M.length → YieldAt Fence.wide (n - 1) Tryz.prog l (teV x) W1 fun e W' => (e = .returned (.bool true) ∧ J (pre ++ [x]) W' ∧ R W1 W' ∧ KeepsT A W1 W') ∨ (e = .returned (.bool false) ∧ Jx (pre ++ [x]) W'))
    (h0 : J [] W) :
    CallsIn Fence.wide n Tryz.prog 59 #[.func (.yield l) #[] #[], .pointer (some ⟨Bg, 0, none⟩), .pointer (some ⟨Bw, 0, none⟩)] W fun e W' => (∃ v, e = .returned v) ∧ ((∃ xs, toldS M wb xs ∧ J xs W') ∨ (∃ pre, (∃ i, toldS (M.take i) wb pre) ∧ Jx pre W')) := by
  have hGW := hG
  have HG := Lib.hid hG
  have HRA := Lib.hid hRa
  have hcm := hGW.cell
  obtain ⟨E, hm, he⟩ := hGW.map
  have HE := Lib.hid he
  have HSK := Lib.hid (fun ks => hGW.sorted_keys (ks := ks) hm he)
  have HLE := Lib.hid (hGW.len hm he)
  obtain ⟨es, clock, hes, hst, hkv⟩ := hm
  obtain ⟨Wa, hWa⟩ : ∃ Wa, W.alloc (.map es clock) = Wa := ⟨_, rfl⟩
  have hma : MapIs Wa W.heap.size E := by rw [← hWa]; exact ⟨es, clock, (MapKept.heap_alloc W _).1, hst, hkv⟩
  have hxa : Xt W Wa := by rw [← hWa]; exact (Xt.refl W).alloc _
  have hsa : Wa.heap.size = W.heap.size + 1 := by rw [← hWa]; simp
  obtain ⟨Wb, hWb⟩ : ∃ Wb, Wa.alloc (.cells #[.map (some W.heap.size)] 66) = Wb := ⟨_, rfl⟩
  have hxb : Xt Wa Wb := by rw [← hWb]; exact (Xt.refl Wa).alloc _
  have hmb : MapIs Wb W.heap.size E := hma.of_heap (hxb.block _ hma.lt)
  have hcb : Wb.cell? ⟨W.heap.size + 1, 0, none⟩ = some (.map (some W.heap.size)) := by rw [← hWb, ← hsa]; simp
  have hsb : Wb.heap.size = Wa.heap.size + 1 := by rw [← hWb]; simp
  have HC := Lib.hid (fun k => callsIn_wide (n := k).2 (mclone_any mb es clock W hes))
  have HKY := Lib.hid (fun k => keys_in Fence.wide k trivial rfl (some W.heap.size) Wa)
  have HSF := Lib.hid (fun k (hk : 4 ≤ k) => sortedFunc_in 80 #[.pointer (some ⟨W.heap.size + 1, 0, none⟩)] (enters_of Tryz.func80 (by kernel_rfl) rfl) _ _ E.length (by have := HLE.out; have := hG.many; omega) (fun ks hk => by have := hk.length_eq; have := HLE.out; have := hG.many; simp at *; omega) k hk Wb (keys_stops Fence.wide (k - 1 - 1 - 1) trivial rfl (by omega) (W.heap.size + 1) W.heap.size E Wb (by omega) hcb hmb))
  have hf1 : Fence.wide.fn 49 := trivial
  have hf2 : Fence.wide.fn 54 := trivial
  have hf3 : Fence.wide.fn 53 := trivial
  have hf4 : Fence.wide.fn 38 := trivial
  have hf5 : Fence.wide.fn wf := trivial
  have h1 : 1 ≤ n := by omega
  have h4 : 4 ≤ n - 1 := by omega
  clear hG hGW he hst hkv
  refine callsIn_of_wp Tryz.func59 rfl trivial ?_ rfl
  simp only [Tryz.ntmps59, List.size_toArray, List.length_cons, List.length_nil, Nat.reduceAdd, Nat.reduceSub, Array.replicate_succ, Array.replicate_zero, List.push_toArray, List.append_toArray, List.nil_append, List.cons_append]
  gi_wp2_with (first
    | (gi_at_call 49; refine (HC.out _).mono ?_; rintro e w' ⟨rfl, rfl⟩; rw [hWa])
    | (gi_at_call 54; refine (HKY.out _).mono ?_; rintro e w' ⟨rfl, rfl⟩; rw [hWb])
    | (gi_at_call 53; refine (HSF.out _ h4).mono ?_; rintro e Wc ⟨v, ks, rfl, hS, ho, hbc⟩; have hkk := HSK.out ks hS; rw [hkk] at ho; obtain ⟨va, vc, rfl, hvc⟩ := OwnL.slice ho (n := M.length) (by simp); have HO := Lib.hid ho; have HBC := Lib.hid hbc; clear ho hbc hkk hS))
  have hxc : Xt Wb Wc := HBC.out
  have hWc : Xt W Wc := (hxa.trans hxb).trans hxc
  have hmc : MapIs Wc W.heap.size E := hmb.of_heap (hxc.block _ hmb.lt)
  have HI : Hid (ItSt A n₀ R W wf wl Bw W.heap.size Wb.heap.size E (.slice va M.length vc) (M.map (·.1)) Wc) := ⟨hRx hnW hWc, Nat.le_trans hnW hWc.size, (hWc.block _ (Array.getElem?_eq_some_iff.1 hcw).1).trans hcw, hmc, HO.out, hA0⟩
  have HWk : Hid (Wk Wc) := hWk _ _ hWkW (hRx hnW hWc) (KeepsT.of_xt hWc)
  have HJ0 : Hid (J [] Wc) := hJ [] W Wc none h0 hWc.grownN (fun r e => by cases e)
  have hsz : W.heap.size ≤ Wc.heap.size := hWc.size
  clear hmc hWc hxc hmb hma hxa hxb hes HC HKY HSF hWa hWb hcb hsa hsb HBC HO h0 hcg hcw hcm HSK hWkW hf1 hf2 hf3
  gi_loopw [18] (fun s18 wr => ∃ (i : Nat) (pre : List TE), i ≤ M.length ∧ s18 = .int .i64 i ∧ Hid (ItSt A n₀ R W wf wl Bw W.heap.size Wb.heap.size E (.slice va M.length vc) (M.map (·.1)) wr) ∧ Hid (Wk wr) ∧ Hid (J pre wr) ∧ Hid (toldS (M.take i) wb pre) ∧ W.heap.size ≤ wr.heap.size) (fun s18 _ => M.length - (intOf s18).toNat)
  case atStart => exact ⟨0, [], Nat.zero_le _, rfl, HI, HWk, HJ0, by unfold Hid; rfl, hsz⟩
  case round =>
    clear HI HWk HJ0 hsz
    obtain ⟨i, pre, hi, rfl, HI, HWk, HJ, HT, hsz⟩ := hrel
    by_cases hlt : i < M.length
    · obtain ⟨x, hx⟩ : ∃ x, M[i]? = some x := ⟨M[i], by simp [hlt]⟩
      obtain ⟨⟨c, d⟩, xc⟩ := x
      have hki : (i : Int) < (M.length : Int) := by omega
      obtain ⟨b, off, rfl, k0, k1⟩ := keys_at HI.out.keys (i := i) (x := (c, d)) (by simp [hx])
      gi_wp2
      obtain ⟨wq, hwq⟩ : ∃ wq, wr.alloc (.cells #[.int .i64 c, .int .i64 d] 36) = wq := ⟨_, rfl⟩
      have hxq : Xt wr wq.drew := by rw [← hwq]; exact ((Xt.refl wr).alloc _).drew
      have HIq : Hid (ItSt A n₀ R W wf wl Bw W.heap.size Wb.heap.size E (.slice (some ⟨b, off, none⟩) M.length vc) (M.map (·.1)) wq.drew) := HI.out.step (hRt HI.out.below (hRx HI.out.big hxq)) (KeepsT.of_xt hxq)
      have HWkq : Hid (Wk wq.drew) := hWk _ _ HWk.out (hRx HI.out.big hxq) (KeepsT.of_xt hxq)
      have HJq : Hid (J pre wq.drew) := hJ _ _ _ none HJ.out hxq.grownN (fun r e => by cases e)
      have q0 : wq.drew.cell? ⟨wr.heap.size, 0, none⟩ = some (.int .i64 c) := by rw [← hwq]; exact new2a wr (.int .i64 c) (.int .i64 d) 36 rfl
      have q1 : wq.drew.cell? ⟨wr.heap.size, 1, none⟩ = some (.int .i64 d) := by rw [← hwq]; exact new2b wr (.int .i64 c) (.int .i64 d) 36 rfl
      have cw : wq.drew.cell? ⟨Bw, 0, none⟩ = some (.func (.func wf) #[] wl) := by have := HIq.out.want; simp [World.cell?] at this ⊢; simp [this]
      have HWN := Lib.hid (fun k => callsIn_wide (n := k).2 (hwant (c, d) wq.drew HWkq.out))
      have hsq : wr.heap.size < wq.heap.size := by rw [← hwq]; simp
      have hsd : wq.drew.heap.size = wq.heap.size := rfl
      rw [hwq]
      have HCI : Hid (ceIn W xc) := HG.out.args _ (List.mem_of_getElem? hx)
      have HL0 : Hid ((lk (c, d) E) = some (ceV xc)) := Lib.hid (by rw [HE.out, lkM_at HG.out.sorted hx]; rfl)
      have HPL : Hid (pre.length < M.length) := Lib.hid (by
        have := told_len HT.out
        rw [List.length_take] at this; omega)
      clear HI HWk HJ hxq hwq k0 k1
      by_cases hwb : wb (c, d) = true
      · have HWB := Lib.hid hwb
        clear hwb
        refine wpIn_region_any (by kernel_rfl) ?_
        change wpAnyIn _ _ _ _ _ _ _ _ _ (World.drew _)
        iterate 2
          all_goals first
            | refine rdI2 0 1 (fun K hK => ?_) fun K hK => ?_
            | refine rdI 1 fun K hK => ?_
            | refine rdI 0 fun K hK => ?_
          all_goals (go_simp; refine koI hK ?_; clear hK K)
        all_goals
          refine rdI 2 fun K hK => ?_
          go_simp
          refine (HWN.out _).mono ?_
          rintro e w1 ⟨rfl, hg1⟩
          rw [HWB.out]
          have HI1 : Hid (ItSt A n₀ R W wf wl Bw W.heap.size Wb.heap.size E (.slice (some ⟨b, off, none⟩) M.length vc) (M.map (·.1)) w1) := HIq.out.step (hRt HIq.out.below (hRx HIq.out.big hg1.xt)) (KeepsT.of_xt hg1.xt)
          have HWk1 : Hid (Wk w1) := hWk _ _ HWkq.out (hRx HIq.out.big hg1.xt) (KeepsT.of_xt hg1.xt)
          have HJ1 : Hid (J pre w1) := hJ _ _ _ none HJq.out hg1.xt.grownN (fun r e => by cases e)
          have r0 := hg1.xt.cellsIn _ _ _ q0
          have r1 := hg1.xt.cellsIn _ _ _ q1
          have hs1 := hg1.xt.sz
          obtain ⟨dd, hdd⟩ := (HRA.out w1 HI1.out.below _ (List.mem_of_getElem? hx)).2
          have HGC := Lib.hid (fun k => callsIn_wide (n := k).2 (gcopyO_any dd xc.1 xc.2 xc.1.t.args.length w1 HCI.out.1 hdd))
          clear hdd
          have hl : (Instr.lookup 66 (.map (some W.heap.size)) (.agg #[.int .i64 c, .int .i64 d]) false).run Tryz.prog w1 = .ok (contV xc.1 xc.2 xc.1.t.args.length xc.1.t.args.length) w1 := by
            have := HI1.out.was.lookup (P := Tryz.prog) (t := 66) (k := 36) (e := 46) adrKey Tryz.underlying66 zeroCon (c, d)
            rw [HL0.out] at this; exact this
          refine koI hK ?_
          clear hK K hg1
          refine tkI 3 ?_
          refine tkI 4 ?_
          refine tkI 6 ?_
        iterate 4
          all_goals first
            | refine rdI2 5 7 (fun K hK => ?_) fun K hK => ?_
            | refine rdI2 5 8 (fun K hK => ?_) fun K hK => ?_
            | refine rdI2 5 9 (fun K hK => ?_) fun K hK => ?_
            | refine rdI 5 fun K hK => ?_
            | refine rdI 7 fun K hK => ?_
            | refine rdI 8 fun K hK => ?_
            | refine rdI 9 fun K hK => ?_
          all_goals
            go_simp
            first
              | refine koI hK ?_
              | refine (HGC.out _).mono ?_
                rintro e w2 ⟨a', rfl, hA, hx2⟩
                have HI2 : Hid (ItSt A n₀ R W wf wl Bw W.heap.size Wb.heap.size E (.slice (some ⟨b, off, none⟩) M.length vc) (M.map (·.1)) w2) := HI1.out.step (hRt HI1.out.below (hRx HI1.out.big hx2)) (KeepsT.of_xt hx2)
                have HWk2 : Hid (Wk w2) := hWk _ _ HWk1.out (hRx HI1.out.big hx2) (KeepsT.of_xt hx2)
                have hJ2 : J pre w2 := hJ _ _ _ none HJ1.out hx2.grownN (fun r e => by cases e)
                have s0 := hx2.cellsIn _ _ _ r0
                have s1 := hx2.cellsIn _ _ _ r1
                have hs2 := hx2.sz
                obtain ⟨fn, tmps, assign, body, hy, hR⟩ := hY pre ((c, d), xc.1, a') w2 hJ2 ⟨w1, HJ1.out, hx2, HCI.out.1, ⟨dd, hA⟩, _, told_yes HT.out hx HWB.out⟩ HPL.out
                (try dsimp only [teV, adW] at hy)
                refine koI hK ?_
                clear hJ2 hA hx2
            clear hK K
        all_goals
          refine rdI 10 fun K hK => ?_
          go_simp
          refine hR.mono ?_
          rintro e w3 (⟨rfl, hJ3, hb3, hk3⟩ | ⟨rfl, hJ3⟩)
          · refine koI hK ?_
            clear hK K
            refine tkI 11 ?_
            refine tkI 12 ?_
            refine wpAnyIn_done (by kernel_rfl) ?_ _
            have hs3 := hk3.size
            have HIE := Lib.hid (HI2.out.step (hRt HI2.out.below hb3) hk3)
            have HWE : Hid (Wk w3) := hWk _ _ HWk2.out hb3 hk3
            have HJE : Hid (J (pre ++ [((c, d), xc.1, a')]) w3) := hJ3
            have HTE : Hid (toldS (M.take (i + 1)) wb (pre ++ [((c, d), xc.1, a')])) := told_yes HT.out hx HWB.out
            clear hJ3 hb3 hk3
            gi_wp2
            go_roundw
            case rel => exact ⟨i + 1, _, by omega, by go_num, HIE, HWE, HJE, HTE, by omega⟩
            case measure => simp [intOf]; omega
          · refine koI hK ?_
            clear hK K
            refine tkI 11 ?_
            refine tkI 12 ?_
            refine wpAnyIn_done (by kernel_rfl) ?_ _
            have HJE : Hid (Jx (pre ++ [((c, d), xc.1, a')]) w3) := hJ3
            clear hJ3
            gi_wp2
            refine bodyPost_ret (results_none rfl _ _ _) rfl ?_
            exact ⟨⟨_, rfl⟩, Or.inr ⟨_, ⟨_, told_yes HT.out hx HWB.out⟩, HJE.out⟩⟩
      · have HWB := Lib.hid (Bool.eq_false_iff.2 hwb)
        clear hwb
        refine wpIn_region_any (by kernel_rfl) ?_
        change wpAnyIn _ _ _ _ _ _ _ _ _ (World.drew _)
        iterate 2
          all_goals first
            | refine rdI2 0 1 (fun K hK => ?_) fun K hK => ?_
            | refine rdI 1 fun K hK => ?_
            | refine rdI 0 fun K hK => ?_
          all_goals (go_simp; refine koI hK ?_; clear hK K)
        all_goals
          refine rdI 2 fun K hK => ?_
          go_simp
          refine (HWN.out _).mono ?_
          rintro e w1 ⟨rfl, hg1⟩
          rw [HWB.out]
          have HI1 : Hid (ItSt A n₀ R W wf wl Bw W.heap.size Wb.heap.size E (.slice (some ⟨b, off, none⟩) M.length vc) (M.map (·.1)) w1) := HIq.out.step (hRt HIq.out.below (hRx HIq.out.big hg1.xt)) (KeepsT.of_xt hg1.xt)
          have HWk1 : Hid (Wk w1) := hWk _ _ HWkq.out (hRx HIq.out.big hg1.xt) (KeepsT.of_xt hg1.xt)
          have HJ1 : Hid (J pre w1) := hJ _ _ _ none HJq.out hg1.xt.grownN (fun r e => by cases e)
          have r0 := hg1.xt.cellsIn _ _ _ q0
          have r1 := hg1.xt.cellsIn _ _ _ q1
          have hs1 := hg1.xt.sz
          obtain ⟨dd, hdd⟩ := (HRA.out w1 HI1.out.below _ (List.mem_of_getElem? hx)).2
          have HGC := Lib.hid (fun k => callsIn_wide (n := k).2 (gcopyO_any dd xc.1 xc.2 xc.1.t.args.length w1 HCI.out.1 hdd))
          clear hdd
          have hl : (Instr.lookup 66 (.map (some W.heap.size)) (.agg #[.int .i64 c, .int .i64 d]) false).run Tryz.prog w1 = .ok (contV xc.1 xc.2 xc.1.t.args.length xc.1.t.args.length) w1 := by
            have := HI1.out.was.lookup (P := Tryz.prog) (t := 66) (k := 36) (e := 46) adrKey Tryz.underlying66 zeroCon (c, d)
            rw [HL0.out] at this; exact this
          refine koI hK ?_
          clear hK K hg1
          refine tkI 3 ?_
          refine skI 4 ?_
          refine skI 5 ?_
          refine skI 6 ?_
          refine skI 7 ?_
          refine skI 8 ?_
          refine rdI 9 fun K hK => ?_
          go_simp
          first | refine koI hK ?_ | refine ⟨fun _ _ => trivial, koI hK ?_⟩
          clear hK K
          refine rdI 10 fun K hK => ?_
          go_simp
          first | refine koI hK ?_ | refine ⟨fun _ _ => trivial, koI hK ?_⟩
          clear hK K
          refine skI 11 ?_
          refine tkI 12 ?_
          refine wpAnyIn_done (by kernel_rfl) ?_ _
          have HTE : Hid (toldS (M.take (i + 1)) wb pre) := told_no HT.out hx HWB.out
          gi_wp2
          go_roundw
          case rel => exact ⟨i + 1, pre, by omega, by go_num, HI1, HWk1, HJ1, HTE, by omega⟩
          case measure => simp [intOf]; omega
    · obtain rfl : i = M.length := by omega
      gi_wp2
      go_end0
      exact ⟨⟨_, rfl⟩, Or.inl ⟨pre, by have := HT.out; rwa [List.take_length] at this, HJ.out⟩⟩

/-! ### some, All, In -/
theorem all1_any (a : Ad) (w : World) : Calls Tryz.prog 35 #[adW a] w fun e w' => e = .returned (.bool true) ∧ Gr w w' := by
  go_enter Tryz.func35, Tryz.ntmps35
  go_wp2
  go_ret
  exact ⟨rfl, (Gr.refl _).alloc _⟩
set_option maxRecDepth 100000 in
theorem some_in (n : Nat) (p : Option Addr) (wv : Value) (hv : ∃ f lb, wv = .func (.func f) #[] lb) (w : World) :
    CallsIn Fence.wide n Tryz.prog 34 #[.pointer p, wv] w fun e w' => e = .returned (.func (.func 59) #[] #[.pointer (some ⟨w.heap.size, 0, none⟩), .pointer (some ⟨w.heap.size + 1, 0, none⟩)]) ∧ w' = (w.alloc (.cells #[.pointer p] 25)).alloc (.cells #[wv] 86) := by
  obtain ⟨f, lb, rfl⟩ := hv
  refine callsIn_of_wp Tryz.func34 rfl trivial ?_ rfl
  simp only [Tryz.ntmps34, List.size_toArray, List.length_cons, List.length_nil, Nat.reduceAdd, Nat.reduceSub, Array.replicate_succ, Array.replicate_zero, List.push_toArray, List.append_toArray, List.nil_append, List.cons_append]
  gi_wp2
  go_ret
  exact ⟨rfl, rfl⟩
set_option maxRecDepth 100000 in
theorem all_in (n : Nat) (hn : 2 ≤ n) (p : Option Addr) (w : World) :
    CallsIn Fence.wide n Tryz.prog 9 #[.pointer p] w fun e w' => e = .returned (.func (.func 59) #[] #[.pointer (some ⟨w.heap.size, 0, none⟩), .pointer (some ⟨w.heap.size + 1, 0, none⟩)]) ∧ w' = (w.alloc (.cells #[.pointer p] 25)).alloc (.cells #[.func (.func 35) #[] #[]] 86) := by
  have h1 : 1 ≤ n := by omega
  have hf : Fence.wide.fn 34 := trivial
  refine callsIn_of_wp Tryz.func9 rfl trivial ?_ rfl
  simp only [Tryz.ntmps9, List.size_toArray, List.length_cons, List.length_nil, Nat.reduceAdd, Nat.reduceSub, Array.replicate_succ, Array.replicate_zero, List.push_toArray, List.append_toArray, List.nil_append, List.cons_append]
  gi_wp2_with (gi_at_call 34; refine (some_in (n - 1) p _ ⟨_, _, rfl⟩ w).mono ?_; rintro e w' ⟨rfl, rfl⟩)
  go_ret
  exact ⟨rfl, rfl⟩
set_option maxRecDepth 100000 in
/-- A grid's iterator, as the loops' law takes it. -/
theorem some1_stops (A : Nat → Bool) (wf : Nat) (wl : Array Value) (ew : ∀ args w, (callFunc wf args).run Tryz.prog w = .ok (.enter wf args) w) (wb : Ad → Bool) (n₀ : Nat) (w0 : World) (hn0 : n₀ = w0.heap.size) (Wk : World → Prop) (hWk : ∀ W W', Wk W → Below n₀ W W' → KeepsT A W W' → Wk W') (hwant : ∀ (a : Ad) (W : World), Wk W → Calls Tryz.prog wf (#[adW a] ++ wl) W fun e W' => e = .returned (.bool (wb a)) ∧ Gr W W')
    (n : Nat) (hn : 8 ≤ n) (Bg Bw gb mb : Nat) (M : GM) (hG : GridIs w0 gb mb M) (w : World) (hW : Below n₀ w0 w) (hWkW : Wk w) (hBg : Bg < w.heap.size) (hcg : w.cell? ⟨Bg, 0, none⟩ = some (.pointer (some ⟨gb, 0, none⟩))) (hcw : w.heap[Bw]? = some (.cells #[.func (.func wf) #[] wl] 86 (0, 0))) (hA0 : ∀ k, w.heap.size ≤ k → A (2 * k + 1) = false := by intros; rfl) :
    SeqStopsK Fence.wide n Tryz.prog 59 #[.pointer (some ⟨Bg, 0, none⟩), .pointer (some ⟨Bw, 0, none⟩)] teV (fun W W' => Below n₀ W W' ∧ KeepsT A W W') (toldS M wb) (fun pre => ∃ i, toldS (M.take i) wb pre) M.length w := fun l J Jx W hB hJ _ hY h0 => by
  have hsW := hW.size
  have hsB := hB.size
  exact some1_in A wf wl ew wb n₀ (Below n₀) (fun h hx => hx.mono h) Below.trans Wk hWk hwant n hn l Bg Bw gb mb M J Jx W (by omega) (hG.xt ((hW.trans (hB.mono (by omega))).mono (by omega) : Below w0.heap.size w0 W)) (fun W' h x hx => (hG.xt (((hW.trans (hB.mono (by omega))).trans h).mono (by omega) : Below w0.heap.size w0 W')).args x hx) (hA0 _ hB.size) (hWk _ _ hWkW (hB.mono (by omega)) (KeepsT.of_xt hB)) hJ
    ((hB.cell (p := ⟨Bg, 0, none⟩) hBg).trans hcg) ((hB.block _ (Array.getElem?_eq_some_iff.1 hcw).1).trans hcw) (fun pre x W1 hj _ hl => hY pre x W1 hj hl) h0
/-- The same, of any world that keeps what the grid has; what is told is the next one. -/
theorem some1_tolp (A : Nat → Bool) (wf : Nat) (wl : Array Value) (ew : ∀ args w, (callFunc wf args).run Tryz.prog w = .ok (.enter wf args) w) (wb : Ad → Bool) (n₀ : Nat) (R : World → World → Prop) (hRx : ∀ {X Y : World}, n₀ ≤ X.heap.size → Xt X Y → R X Y) (hRt : ∀ {X Y Z : World}, R X Y → R Y Z → R X Z) (Wk : World → Prop) (hWk : ∀ W W', Wk W → R W W' → KeepsT A W W' → Wk W') (hwant : ∀ (a : Ad) (W : World), Wk W → Calls Tryz.prog wf (#[adW a] ++ wl) W fun e W' => e = .returned (.bool (wb a)) ∧ Gr W W')
    (n : Nat) (hn : 8 ≤ n) (Bg Bw gb mb : Nat) (M : GM) (w : World) (hnw : n₀ ≤ w.heap.size) (hG : GridIs w gb mb M) (hRa : ∀ W', R w W' → ∀ x ∈ M, ceIn W' x.2) (hWkW : Wk w) (hBg : Bg < w.heap.size) (hcg : w.cell? ⟨Bg, 0, none⟩ = some (.pointer (some ⟨gb, 0, none⟩))) (hcw : w.heap[Bw]? = some (.cells #[.func (.func wf) #[] wl] 86 (0, 0))) (hA0 : ∀ k, w.heap.size ≤ k → A (2 * k + 1) = false) :
    SeqTolp n Tryz.prog 59 #[.pointer (some ⟨Bg, 0, none⟩), .pointer (some ⟨Bw, 0, none⟩)] teV (fun W W' => R W W' ∧ KeepsT A W W') (toldN M wb) (toldS M wb) (fun pre => ∃ i, toldS (M.take i) wb pre) M.length w := fun l J Jx W hB hJ _ hY h0 =>
  some1_in A wf wl ew wb n₀ R hRx hRt Wk hWk hwant n hn l Bg Bw gb mb M J Jx W (Nat.le_trans hnw hB.size) (hG.xt hB) (fun W' h => hRa W' (hRt (hRx hnw hB) h)) (hA0 _ hB.size) (hWk _ _ hWkW (hRx hnw hB) (KeepsT.of_xt hB)) hJ
    ((hB.cell (p := ⟨Bg, 0, none⟩) hBg).trans hcg) ((hB.block _ (Array.getElem?_eq_some_iff.1 hcw).1).trans hcw) hY h0

/-! ### Bounds -/
def boundsL (l : List Ad) : Ar := l.foldl (fun b k => ((min b.1.1 k.1, min b.1.2 k.2), (max b.2.1 k.1, max b.2.2 k.2))) ((256, 4096), (0, 0))
theorem boundsL_snoc (l : List Ad) (k : Ad) : boundsL (l ++ [k]) = ((min (boundsL l).1.1 k.1, min (boundsL l).1.2 k.2), (max (boundsL l).2.1 k.1, max (boundsL l).2.2 k.2)) := by simp [boundsL]
abbrev arV (x : Ar) : Value := .agg #[.int .i64 x.1.1, .int .i64 x.1.2, .int .i64 x.2.1, .int .i64 x.2.2]
set_option maxRecDepth 100000 in
set_option maxHeartbeats 4000000 in
theorem bounds_any (gb mb : Nat) (M : GM) (w : World) (hG : GridIs w gb mb M) (hne : M ≠ []) : Calls Tryz.prog 14 #[.pointer (some ⟨gb, 0, none⟩)] w fun e w' => e = .returned (.tuple #[arV (boundsL (M.map (·.1))), .bool true]) ∧ Xt w w' := by
  have hlen : ((M.length : Int) == 0) = false := by
    have : 0 < M.length := List.length_pos_iff.2 hne
    simp; exact hne
  obtain ⟨w1, hw1⟩ : ∃ w1, w.alloc (.cells #[.int .i64 0, .int .i64 0, .int .i64 0, .int .i64 0] 48) = w1 := ⟨_, rfl⟩
  have hx1 : Xt w w1 := by rw [← hw1]; exact (Xt.refl w).alloc _
  have HL := Lib.hid (callsIn_wide (n := 19).2 (glen_any gb mb M w1 (hG.xt hx1)))
  refine (callsIn_wide (n := 20)).1 ?_
  have h1 : 1 ≤ 20 := by omega
  have hf1 : Fence.wide.fn 15 := trivial
  have hf2 : Fence.wide.fn 9 := trivial
  refine callsIn_of_wp_marks Tryz.func14 rfl trivial ?_ rfl
  simp only [Tryz.ntmps14, List.size_toArray, List.length_cons, List.length_nil, Nat.reduceAdd, Nat.reduceSub, Array.replicate_succ, Array.replicate_zero, List.push_toArray, List.append_toArray, List.nil_append, List.cons_append]
  gi_wp2_with (first
    | (gi_at_call 15; refine HL.out.mono ?_; rintro e w' ⟨rfl, rfl⟩)
    | (gi_at_call 9; refine (all_in 19 (by omega) _ _).mono ?_; rintro e w' ⟨rfl, rfl⟩))
  obtain ⟨B, hBe⟩ : ∃ B, w1.heap.size = B := ⟨_, rfl⟩
  simp only [hBe]
  obtain ⟨W0, hW0⟩ : ∃ W0, ((w1.alloc (.cells #[.int .i64 256, .int .i64 4096, .int .i64 0, .int .i64 0] 48)).alloc (.cells #[.pointer (some ⟨gb, 0, none⟩)] 25)).alloc (.cells #[.func (.func 35) #[] #[]] 86) = W0 := ⟨_, rfl⟩
  have hsz : W0.heap.size = B + 3 := by rw [← hW0]; simp [hBe]
  have hx0 : Xt w1 W0 := by rw [← hW0]; exact (((Xt.refl w1).alloc _).alloc _).alloc _
  have hr1 : w1.heap[w.heap.size]? = some (.cells #[.int .i64 0, .int .i64 0, .int .i64 0, .int .i64 0] 48 (0, 0)) := by rw [← hw1]; exact (MapKept.heap_alloc w _).1
  have hr0 := (hx0.block _ (Array.getElem?_eq_some_iff.1 hr1).1).trans hr1
  have hb0 : W0.heap[B]? = some (.cells #[.int .i64 256, .int .i64 4096, .int .i64 0, .int .i64 0] 48 (0, 0)) := by
    rw [← hW0, ← hBe]
    have e1 := (MapKept.heap_alloc w1 (.cells #[.int .i64 256, .int .i64 4096, .int .i64 0, .int .i64 0] 48)).1
    have x1 := (((Xt.refl (w1.alloc (.cells #[.int .i64 256, .int .i64 4096, .int .i64 0, .int .i64 0] 48))).alloc (.cells #[.pointer (some ⟨gb, 0, none⟩)] 25)).alloc (.cells #[.func (.func 35) #[] #[]] 86))
    exact (x1.block _ (by simp)).trans e1
  have hcg : W0.cell? ⟨B + 1, 0, none⟩ = some (.pointer (some ⟨gb, 0, none⟩)) := by
    have e2 : W0.heap[B + 1]? = some (.cells #[.pointer (some ⟨gb, 0, none⟩)] 25 (0, 0)) := by
      rw [← hW0, ← hBe]
      have e1 := (MapKept.heap_alloc (w1.alloc (.cells #[.int .i64 256, .int .i64 4096, .int .i64 0, .int .i64 0] 48)) (.cells #[.pointer (some ⟨gb, 0, none⟩)] 25)).1
      have x1 := (Xt.refl ((w1.alloc (.cells #[.int .i64 256, .int .i64 4096, .int .i64 0, .int .i64 0] 48)).alloc (.cells #[.pointer (some ⟨gb, 0, none⟩)] 25))).alloc (.cells #[.func (.func 35) #[] #[]] 86)
      have e3 := (x1.block _ (by simp)).trans e1
      simpa using e3
    simp [World.cell?, e2]
  have hcw : W0.heap[B + 1 + 1]? = some (.cells #[.func (.func 35) #[] #[]] 86 (0, 0)) := by
    rw [← hW0, ← hBe]
    have := World.alloc_heap_new ((w1.alloc (.cells #[.int .i64 256, .int .i64 4096, .int .i64 0, .int .i64 0] 48)).alloc (.cells #[.pointer (some ⟨gb, 0, none⟩)] 25)) (.cells #[.func (.func 35) #[] #[]] 86)
    simpa using this
  have hxW : Xt w W0 := hx1.trans hx0
  have HS1 : Hid (B = w.heap.size + 1) := by have : w1.heap.size = w.heap.size + 1 := (by rw [← hw1]; simp); unfold Hid; omega
  have hwB : w.heap.size < B := by have := HS1.out; omega
  rw [hW0]
  clear hW0 hw1 HL
  refine wpIn_rangeFunc_ownH (F := Fence.wide) rfl (by omega) (gf := 59) (lb := #[.pointer (some ⟨B + 1, 0, none⟩), .pointer (some ⟨B + 1 + 1, 0, none⟩)]) rfl trivial (enters_of Tryz.func59 (by kernel_rfl) rfl)
    (some1_stops (fun _ => false) 35 #[] (enters_of Tryz.func35 (by kernel_rfl) rfl) (fun _ => true) w.heap.size w rfl (fun _ => True) (fun _ _ _ _ _ => trivial) (fun a W _ => all1_any a W) 19 (by omega) (B + 1) (B + 1 + 1) gb mb M hG W0 hxW trivial (by omega) hcg hcw)
    (fun h k => ⟨h.1.trans k.1, h.2.trans k.2⟩) (fun W l o o' hl ho hc hw => ⟨belowK_b (w := W0) (by omega) W l o o' hl ho hc hw, KeepsT.of_grown (grownBy_putObj' W l o') (fun j o2 e h2 => by cases e; rw [ho] at h2; cases h2; cases o <;> simp_all [keptO, Obj.isCells, Obj.isWalk])⟩) (Below.refl _ _) (fun _ => rfl)
    (fun pre W => (W.heap[B]? = some (.cells #[.int .i64 (boundsL (pre.map (·.1))).1.1, .int .i64 (boundsL (pre.map (·.1))).1.2, .int .i64 (boundsL (pre.map (·.1))).2.1, .int .i64 (boundsL (pre.map (·.1))).2.2] 48 (0, 0)) ∧ W.heap[w.heap.size]? = some (.cells #[.int .i64 0, .int .i64 0, .int .i64 0, .int .i64 0] 48 (0, 0))) ∧ Below w.heap.size w W)
    (fun _ _ _ => False)
    (OwnFrom.and (fun s X Y row hs hg hr => ⟨rowCells_own hs.1 hg (fun r e => (hr r e).2), rowCells_own hs.2 hg (fun r e => (hr r e).2)⟩) (ownFrom_below (Nat.le_refl _) (by omega)))
    (fun _ _ _ _ _ hs _ _ => hs)
    ⟨⟨hb0, hr0⟩, hxW⟩
    (fun x a' W => ∃ Bx, W.heap[Bx]? = some (.cells #[.int .i64 x.1.1, .int .i64 x.1.2] 36 (0, 0)) ∧ a' = { tmps := #[.pointer (some ⟨gb, 0, none⟩), undef, .pointer (some ⟨w.heap.size, 0, none⟩), .bool false, .pointer (some ⟨B, 0, none⟩), .pointer (some ⟨Bx, 0, none⟩), .pointer (some ⟨gb, 0, none⟩), .int .i64 M.length, .bool false, undef, .agg #[.int .i64 256, .int .i64 4096], .agg #[.int .i64 256, .int .i64 4096, .int .i64 0, .int .i64 0], .pointer (some ⟨gb, 0, none⟩), .func (.func 59) #[] #[.pointer (some ⟨B + 1, 0, none⟩), .pointer (some ⟨B + 1 + 1, 0, none⟩)], adW x.1, copyCV x.2.1 x.2.2, undef, undef, undef, undef, undef, undef, undef, undef, undef, undef, undef, undef, undef, undef, undef, undef, undef, undef, undef, undef, undef, undef, undef, undef, undef, undef, undef, undef, undef], defers := [] })
    (fun x a' _ X Y row hs hg hr => by
      obtain ⟨Bx, h1, h2⟩ := hs
      exact ⟨Bx, rowCells_own h1 hg (fun r e => (hr r e).2), h2⟩)
    ?assign ?body ?done ?stop
  case assign =>
    rintro l pre x W K ⟨⟨hv, hv2⟩, hB⟩ hK
    gi_wp2
    exact hK _ _ ((KeepsOthers.alloc _ _).from _) ⟨(Below.refl _ W).alloc hB.size _, KeepsT.of_xt ((Xt.refl W).alloc _)⟩ ⟨⟨(Below.heap_alloc W _ _ (Array.getElem?_eq_some_iff.1 hv).1).trans hv, (Below.heap_alloc W _ _ (Array.getElem?_eq_some_iff.1 hv2).1).trans hv2⟩, hB.alloc hB.size _⟩ ⟨W.heap.size, World.alloc_heap_new W _, rfl⟩
  case body =>
    rintro l pre x a' W hl ⟨r, hr⟩ ⟨⟨hv, hv2⟩, hB⟩ ⟨Bx, hBx, rfl⟩ hlt
    have hne : B ≠ Bx := fun e => by have hq := hv; rw [e, hBx] at hq; simp at hq
    have HV := Lib.hid hv
    have HV2 := Lib.hid hv2
    generalize hbl : boundsL (pre.map (·.1)) = bl at hv HV
    have HBL := Lib.hid hbl
    clear hbl
    obtain ⟨⟨b1, b2⟩, b3, b4⟩ := bl
    obtain ⟨x, xc⟩ := x
    have c0 : W.cell? ⟨B, 0, none⟩ = some (.int .i64 b1) := by simp [World.cell?, hv]
    have c1 : W.cell? ⟨B, 1, none⟩ = some (.int .i64 b2) := by simp [World.cell?, hv]
    have c2 : W.cell? ⟨B, 2, none⟩ = some (.int .i64 b3) := by simp [World.cell?, hv]
    have c3 : W.cell? ⟨B, 3, none⟩ = some (.int .i64 b4) := by simp [World.cell?, hv]
    have z : ∀ o, W.frozen? ⟨B, o, none⟩ = false := fun o => by simp [World.frozen?, hv]
    have z0 := z 0
    have z1 := z 1
    have z2 := z 2
    have z3 := z 3
    have d0 : W.cell? ⟨Bx, 0, none⟩ = some (.int .i64 x.1) := by simp [World.cell?, hBx]
    have d1 : W.cell? ⟨Bx, 1, none⟩ = some (.int .i64 x.2) := by simp [World.cell?, hBx]
    clear hv z hBx hv2
    gi_wp2
    have r4 := setCell_row (setCell_row (setCell_row (setCell_row HV.out 0 (.int .i64 (min b1 x.1))) 1 (.int .i64 (min b2 x.2))) 2 (.int .i64 (max b3 x.1))) 3 (.int .i64 (max b4 x.2))
    simp only [List.setIfInBounds_toArray, List.set_cons_zero, List.set_cons_succ] at r4
    have hg4 := grown_set (grown_set (grown_set (grown_set (World.grownBy.refl W (some B)) 0 (.int .i64 (min b1 x.1))) 1 (.int .i64 (min b2 x.2))) 2 (.int .i64 (max b3 x.1))) 3 (.int .i64 (max b4 x.2))
    have hb4 : Below w.heap.size W _ := (Below.refl w.heap.size W).grown hg4 hB.size (fun k e => by cases e; omega)
    refine ⟨KeepsFrom.of_grownBy hg4 (fun j e => by cases e; omega), ⟨hb4, KeepsT.of_grown hg4 (fun j o e ho => by cases e; rw [HV.out] at ho; cases ho; rfl)⟩, ⟨?_, (hg4.block _ (Array.getElem?_eq_some_iff.1 HV2.out).1 (fun e => by cases e; omega)).trans HV2.out⟩, hB.trans hb4⟩
    have hs := boundsL_snoc (pre.map (·.1)) x
    rw [HBL.out] at hs
    simp only [List.map_append, List.map_cons, List.map_nil, hs]
    exact r4
  case done =>
    rintro D xs W hD hS ⟨⟨hv, hv2⟩, hB⟩ hK
    have hkeys : xs.map (·.1) = M.map (·.1) := by
      have := congrArg (List.map (·.1)) hS
      rw [List.filter_eq_self.2 (fun _ _ => rfl)] at this
      simpa [List.map_map, Function.comp_def] using this
    rw [hkeys] at hv
    have c0 : W.cell? ⟨B, 0, none⟩ = some (.int .i64 (boundsL (M.map (·.1))).1.1) := by simp [World.cell?, hv]
    have c1 : W.cell? ⟨B, 1, none⟩ = some (.int .i64 (boundsL (M.map (·.1))).1.2) := by simp [World.cell?, hv]
    have c2 : W.cell? ⟨B, 2, none⟩ = some (.int .i64 (boundsL (M.map (·.1))).2.1) := by simp [World.cell?, hv]
    have c3 : W.cell? ⟨B, 3, none⟩ = some (.int .i64 (boundsL (M.map (·.1))).2.2) := by simp [World.cell?, hv]
    have y0 : W.cell? ⟨w.heap.size, 0, none⟩ = some (.int .i64 0) := by simp [World.cell?, hv2]
    have y1 : W.cell? ⟨w.heap.size, 1, none⟩ = some (.int .i64 0) := by simp [World.cell?, hv2]
    have y2 : W.cell? ⟨w.heap.size, 2, none⟩ = some (.int .i64 0) := by simp [World.cell?, hv2]
    have y3 : W.cell? ⟨w.heap.size, 3, none⟩ = some (.int .i64 0) := by simp [World.cell?, hv2]
    have z : ∀ o, W.frozen? ⟨w.heap.size, o, none⟩ = false := fun o => by simp [World.frozen?, hv2]
    have z0 := z 0
    have z1 := z 1
    have z2 := z 2
    have z3 := z 3
    have HV2 := Lib.hid hv2
    clear z hv hv2 hkeys
    generalize hbl : boundsL (M.map (·.1)) = bl at *
    have HBL := Lib.hid hbl
    clear hbl
    obtain ⟨⟨b1, b2⟩, b3, b4⟩ := bl
    gi_wp2
    have r4 := setCell_row (setCell_row (setCell_row (setCell_row HV2.out 0 (.int .i64 b1)) 1 (.int .i64 b2)) 2 (.int .i64 b3)) 3 (.int .i64 b4)
    simp only [List.setIfInBounds_toArray, List.set_cons_zero, List.set_cons_succ] at r4
    have hg4 := grown_set (grown_set (grown_set (grown_set (World.grownBy.refl W (some w.heap.size)) 0 (.int .i64 b1)) 1 (.int .i64 b2)) 2 (.int .i64 b3)) 3 (.int .i64 b4)
    have hb4 : Below w.heap.size W _ := (Below.refl w.heap.size W).grown hg4 hB.size (fun k e => by cases e; omega)
    generalize World.setCell _ _ _ = W5 at r4 hg4 hb4 ⊢
    have hK5 := (hg4.block D (Array.getElem?_eq_some_iff.1 hK).1 (fun e => by cases e; omega)).trans hK
    refine ⟨by simp, .inl ⟨_, _, rfl, run_takeDeferred hK5, ?_⟩⟩
    have r6 : (W5.putObj D (.deferred none)).heap[w.heap.size]? = some (.cells #[.int .i64 b1, .int .i64 b2, .int .i64 b3, .int .i64 b4] 48 (0, 0)) := (World.putObj_heap_other (by omega)).trans r4
    refine ⟨.tuple #[arV ((b1, b2), (b3, b4)), .bool true], ?_, ?_⟩
    · rw [results_cell_tmp rfl]
      show ((asAddr (.pointer (some ⟨w.heap.size, 0, none⟩))).run _ _).andThen _ = _
      simp only [asAddr, Sem.run_pure, Result.andThen_ok, run_loadVar_row _ _ _ 48 _ _ _ r6 Tryz.underlying48 rfl (by kernel_rfl)]
      rfl
    · rw [HBL.out]
      exact ⟨rfl, (hB.trans hb4).trans (belowK_b (w := w) (Nat.le_refl _) W5 D _ _ (by omega) hK5 rfl rfl)⟩
  case stop =>
    rintro D c pre W hD hS hF
    exact hF.elim
end
end Go.Proofs.YtideclfpbpjebaaGreatDoor
