import Derived.Test.YtfpdleljhbkehaaDoorB1
import Derived.Test.YtfpdleljhbkehaaDoorA7
import Derived.StillTailTactics
/- Two grids' maps are equal: maps.EqualFunc under grid.Same. -/
namespace Go.Proofs.YtfpdleljhbkehaaDoor
open Go.RowKit Go.Sort Go.Maps

/-! ### maps.EqualFunc -/
theorem lk_in {c : Ad} {v : Value} : ∀ {E : List (Ad × Value)}, (E.map (·.1)).Nodup → (c, v) ∈ E → lk c E = some v
  | [], _, h => by simp at h
  | x :: r, hn, h => by
    unfold lk
    rw [List.map_cons, List.nodup_cons] at hn
    rcases List.mem_cons.1 h with rfl | h
    · simp
    · have : ¬ x.1 = c := fun e => hn.1 (e ▸ List.mem_map.2 ⟨_, h, rfl⟩)
      simp only [this, if_false]
      exact lk_in hn.2 h
/-- Both have the cell, and the same there. -/
noncomputable def okAt (M1 M2 : GM) (a : Ad) : Bool := match lkM a M1, lkM a M2 with
  | some x, some y => sameCB x.1 y.1
  | _, _ => false
noncomputable def eqMB (M1 M2 : GM) : Bool := decide (M1.length = M2.length) && (M1.map (·.1)).all (okAt M1 M2)
theorem eqMB_len {M1 M2 : GM} (h : ¬ M1.length = M2.length) : eqMB M1 M2 = false := by simp [eqMB, h]
theorem eqMB_no {M1 M2 : GM} {a : Ad} (ha : a ∈ M1.map (·.1)) (h : okAt M1 M2 a = false) : eqMB M1 M2 = false := by
  have : (M1.map (·.1)).all (okAt M1 M2) = false := by
    rw [List.all_eq_false]; exact ⟨a, ha, by simp [h]⟩
  simp [eqMB, this]
theorem eqMB_yes {M1 M2 : GM} (h : M1.length = M2.length) (hk : ∀ a ∈ M1.map (·.1), okAt M1 M2 a = true) : eqMB M1 M2 = true := by
  have : (M1.map (·.1)).all (okAt M1 M2) = true := List.all_eq_true.2 hk
  simp [eqMB, this, h]
/-- A map as a grid has it. -/
structure MapG (w : World) (mb : Nat) (M : GM) : Prop where
  map : ∃ E, MapIs w mb E ∧ (∀ a, lk a E = (lkM a M).map ceV) ∧ E.length = M.length ∧ (E.map (·.1)).Perm (M.map (·.1))
  args : ∀ x ∈ M, ceIn w x.2
theorem GridIs.mapG {w : World} {gb mb : Nat} {M : GM} (h : GridIs w gb mb M) : MapG w mb M := by
  obtain ⟨E, hm, he⟩ := h.map
  exact ⟨⟨E, hm, he, h.len hm he, h.keys hm he⟩, h.args⟩
theorem MapG.xt {w w' : World} {mb : Nat} {M : GM} (h : MapG w mb M) (hx : Xt w w') : MapG w' mb M := by
  obtain ⟨E, hm, r⟩ := h.map
  exact ⟨⟨E, hm.of_heap (hx.block mb hm.lt), r⟩, fun x hx' => (h.args x hx').kept hx.cellsIn⟩
theorem args_up {w : World} : ∀ {n m : Nat} {av : Value} {l : List NodeT}, n ≤ m → ArgsIn w n av l → ArgsIn w m av l
  | 0, 0, _, _, _, h => h
  | 0, m + 1, _, _, _, h => by obtain ⟨rfl, a, cap, rfl, hc⟩ := h; exact ⟨a, cap, rfl, Nat.zero_le _, hc, fun h => absurd rfl h⟩
  | n + 1, 0, _, _, hl, _ => absurd hl (by omega)
  | n + 1, m + 1, _, _, hl, h => by
    obtain ⟨a, cap, rfl, h1, h2, h3⟩ := h
    refine ⟨a, cap, rfl, h1, h2, fun hne => ?_⟩
    obtain ⟨b, off, rfl, hc⟩ := h3 hne
    exact ⟨b, off, rfl, fun k t ht => let ⟨av', q1, q2⟩ := hc k t ht; ⟨av', q1, args_up (by omega) q2⟩⟩
theorem gsame_in {w : World} {x y : CE} (hx : ceIn w x) (hy : ceIn w y) : Calls Tryd.prog 33 #[ceV x, ceV y] w fun e w' => e = .returned (.bool (sameCB x.1 y.1)) ∧ Gr w w' := by
  obtain ⟨_, n, h1⟩ := hx
  obtain ⟨_, m, h2⟩ := hy
  exact gsame_any (max n m) x.1 y.1 x.2 y.2 _ _ w (args_up (Nat.le_max_left ..) h1) (args_up (Nat.le_max_right ..) h2)
/-- A content's box: laid empty, then filled. -/
theorem boxR (w : World) (x : CE) : ∃ wZ wR, w.alloc (.cells #[.int .i64 0, .int .i64 0, .float .f64 0, .string ⟨#[]⟩, .bool false, .int .i64 0, .int .i64 0, .int .i64 0, .float .f64 0, .string ⟨#[]⟩, .bool false, .int .i64 0, .int .i64 0, .int .i64 0, .bool false, .bool false, .int .i64 0, .int .i64 0, .bool false, .bool false, .slice none 0 0] 33) = wZ ∧ wZ.setRow w.heap.size #[.int .i64 x.1.kind, .int .i64 x.1.v.kind, .float .f64 x.1.v.x, .string x.1.v.s, .bool x.1.v.b, .int .i64 x.1.v.f, .int .i64 x.1.t.kind, .int .i64 x.1.t.op, .float .f64 x.1.t.x, .string x.1.t.s, .bool x.1.t.b, .int .i64 x.1.t.f, .int .i64 x.1.t.ref.a.1, .int .i64 x.1.t.ref.a.2, .bool x.1.t.ref.cf, .bool x.1.t.ref.rf, .int .i64 x.1.t.to.a.1, .int .i64 x.1.t.to.a.2, .bool x.1.t.to.cf, .bool x.1.t.to.rf, .slice x.2 x.1.t.args.length x.1.t.args.length] = wR ∧ wZ.heap[w.heap.size]? = some (.cells #[.int .i64 0, .int .i64 0, .float .f64 0, .string ⟨#[]⟩, .bool false, .int .i64 0, .int .i64 0, .int .i64 0, .float .f64 0, .string ⟨#[]⟩, .bool false, .int .i64 0, .int .i64 0, .int .i64 0, .bool false, .bool false, .int .i64 0, .int .i64 0, .bool false, .bool false, .slice none 0 0] 33 (0, 0)) ∧ wR.heap[w.heap.size]? = some (.cells #[.int .i64 x.1.kind, .int .i64 x.1.v.kind, .float .f64 x.1.v.x, .string x.1.v.s, .bool x.1.v.b, .int .i64 x.1.v.f, .int .i64 x.1.t.kind, .int .i64 x.1.t.op, .float .f64 x.1.t.x, .string x.1.t.s, .bool x.1.t.b, .int .i64 x.1.t.f, .int .i64 x.1.t.ref.a.1, .int .i64 x.1.t.ref.a.2, .bool x.1.t.ref.cf, .bool x.1.t.ref.rf, .int .i64 x.1.t.to.a.1, .int .i64 x.1.t.to.a.2, .bool x.1.t.to.cf, .bool x.1.t.to.rf, .slice x.2 x.1.t.args.length x.1.t.args.length] 33 (0, 0)) ∧ Xt w wR ∧ wR.heap.size = w.heap.size + 1 ∧ Xt w wZ ∧ wZ.heap.size = w.heap.size + 1 := by
  have h1 := (MapKept.heap_alloc w (.cells #[.int .i64 0, .int .i64 0, .float .f64 0, .string ⟨#[]⟩, .bool false, .int .i64 0, .int .i64 0, .int .i64 0, .float .f64 0, .string ⟨#[]⟩, .bool false, .int .i64 0, .int .i64 0, .int .i64 0, .bool false, .bool false, .int .i64 0, .int .i64 0, .bool false, .bool false, .slice none 0 0] 33)).1
  refine ⟨_, _, rfl, rfl, h1, setRow_heap _ _ _ _ _ _ h1, ((Xt.refl w).alloc _).grownB (setRow_grown _ _ _) (fun m hm => by cases hm; exact Nat.le_refl _), by simp, (Xt.refl w).alloc _, by simp⟩
set_option maxRecDepth 100000 in
set_option maxHeartbeats 4000000 in
theorem meq_any (b1 b2 : Nat) (M1 M2 : GM) (w : World) (h1 : MapG w b1 M1) (h2 : MapG w b2 M2) :
    Calls Tryd.prog 32 #[.map (some b1), .map (some b2), .func (.func 33) #[] #[]] w fun e w' => e = .returned (.bool (eqMB M1 M2)) ∧ Xt w w' := by
  have H1 := Lib.hid h1
  have H2 := Lib.hid h2
  obtain ⟨E1, hm1, he1, hl1, hp1⟩ := h1.map
  obtain ⟨E2, hm2, he2, hl2, hp2⟩ := h2.map
  have q1 : ∀ ty, (Builtin.len_ #[63] ty #[.map (some b1)]).run Tryd.prog w = .ok (.int .i64 M1.length) w := fun ty => by rw [← hl1]; exact hm1.len Tryd.underlying63
  have q2 : ∀ ty, (Builtin.len_ #[63] ty #[.map (some b2)]).run Tryd.prog w = .ok (.int .i64 M2.length) w := fun ty => by rw [← hl2]; exact hm2.len Tryd.underlying63
  by_cases hl : M1.length = M2.length
  rotate_left
  · have hne : ((M1.length : Int) == (M2.length : Int)) = false := by simp; omega
    have HN := Lib.hid (eqMB_len hl)
    clear hl h1 h2 hm1 he1 hl1 hp1 hm2 he2 hl2 hp2
    go_enter Tryd.func32, Tryd.ntmps32
    go_wp2_with fail
    go_ret
    exact ⟨by rw [HN.out]; rfl, Xt.refl _⟩
  have HL := Lib.hid hl
  have HE1 := Lib.hid he1
  have HE2 := Lib.hid he2
  have HP1 := Lib.hid hp1
  have HND := Lib.hid hm1.nodup
  rw [← hl] at q2
  clear hl h1 h2 he1 hl1 hp1 he2 hl2 hp2
  go_enter Tryd.func32, Tryd.ntmps32
  go_wp2_with (first | (at_range; refine wpList_range_it _ rfl _ 63 26 33 rfl Tryd.underlying63 b1 E1 rfl hm1 ?_; intro w2 hI hg2 hs2; go_frame))
  have HX2 : Hid (Xt w w2) := hg2.xt
  obtain ⟨r, hr⟩ : ∃ r, w.heap.size = r := ⟨_, rfl⟩
  rw [hr] at hI hs2 ⊢
  have HR := Lib.hid hr
  clear hr hg2 hs2 q1 q2
  go_loopg [18] E1.length (fun k _ wr => ∃ left cur ks, left.length = k ∧ Hid ((ks ++ left.map (·.1)).Perm (E1.map (·.1))) ∧ Hid (∀ x ∈ left, x ∈ E1) ∧ IterIs wr r b1 E1 left cur ∧ Hid (∀ a ∈ ks, okAt M1 M2 a = true) ∧ Hid (Xt w wr))
  case atStart => exact ⟨E1, none, [], rfl, by unfold Hid; simp, fun _ h => h, hI, fun _ h => absurd h (by simp), HX2⟩
  case round =>
    clear HX2 hI
    obtain ⟨left, cur, ks, rfl, HP, HIN, hI1, HOK, HX⟩ := hrel
    go_wp2_with (at_next; refine wpList_next_it _ rfl _ rfl _ _ _ _ _ rfl hI1 ?_ ?_)
    · intro hdone
      subst hdone
      go_wp2_with fail
      go_ret
      have hp := HP.out
      simp only [List.map_nil, List.append_nil] at hp
      refine ⟨?_, HX.out⟩
      rw [eqMB_yes HL.out fun a ha => HOK.out a (hp.mem_iff.2 (HP1.out.mem_iff.2 ha))]
      rfl
    · intro c d v l1 l2 w3 hl hI2 hg3 hs3 hen
      have HL3 := Lib.hid hl
      have HP' : Hid (((ks ++ [(c, d)]) ++ (l1 ++ l2).map (·.1)).Perm (E1.map (·.1))) := by
        refine List.Perm.trans ?_ HP.out
        rw [hl]
        simp only [List.map_append, List.map_cons, List.append_assoc, List.singleton_append]
        exact List.Perm.append_left _ List.perm_middle.symm
      have HIN' : Hid (∀ x ∈ l1 ++ l2, x ∈ E1) := fun x hx => HIN.out x (by rw [hl]; rcases List.mem_append.1 hx with h | h <;> simp [h])
      have hlk : lk (c, d) E1 = some v := lk_in HND.out (HIN.out _ (by rw [hl]; simp))
      have hin : (c, d) ∈ M1.map (·.1) := HP1.out.mem_iff.1 (List.mem_map.2 ⟨_, HIN.out ((c, d), v) (by rw [hl]; simp), rfl⟩)
      rw [HE1.out] at hlk
      obtain ⟨x, hx, rfl⟩ := Option.map_eq_some_iff.1 hlk
      have HXM := Lib.hid hx
      have HIM := Lib.hid hin
      have hX3 : Xt w w3 := HX.out.grownB hg3 (fun m hm => by cases hm; rw [HR.out]; exact Nat.le_refl _)
      clear hl hI1 hs3 hg3 hlk hin hx HIN HP
      obtain ⟨wA, hwA, hbA, hsA, kA0, kA1⟩ := box1 w3 c d 26
      obtain ⟨wZ, wB, hwZ, hwB, hrZ, hrB, hxB1, hsB, hxZ, hsZ⟩ := boxR wA x
      rw [hsA] at hrZ hrB hwB
      have hxB : Xt w3 wB := by refine Xt.trans ?_ hxB1; rw [← hwA]; exact (Xt.refl w3).alloc _
      rw [hsA] at hsB
      have hmB := H2.out.xt (hX3.trans hxB)
      obtain ⟨E2', hm2', he2', _, _⟩ := hmB.map
      have hlook := MapIs.lookup_ok (P := Tryd.prog) (t := 63) (k := 26) (e := 33) adrKey Tryd.underlying63 zeroCon hm2' (c, d)
      have hcx : ceIn w (x.1, x.2) := H1.out.args _ (lkM_mem HXM.out)
      have HCX := Lib.hid (fun W (h : Xt w W) => hcx.kept h.cellsIn)
      have HCY := Lib.hid (fun W (y : CE) (hy : lkM (c, d) M2 = some y) (h : Xt w W) => (H2.out.args _ (lkM_mem hy)).kept h.cellsIn)
      have kB0 : wB.cell? ⟨w3.heap.size, 0, none⟩ = some (.int .i64 c) := ((hxB1.cells).1 _ 0 (by omega)).trans kA0
      have kB1 : wB.cell? ⟨w3.heap.size, 1, none⟩ = some (.int .i64 d) := ((hxB1.cells).1 _ 1 (by omega)).trans kA1
      rw [he2'] at hlook
      have HRB := Lib.hid hrB
      have HXB := Lib.hid hxB
      have HX3 := Lib.hid hX3
      have HRZ := Lib.hid hrZ
      have HWB := Lib.hid hwB
      clear hmB hm2' he2' hcx hrB hxB hX3 hbA kA0 kA1 hrZ hwB hxB1 hxZ
      cases hy : lkM (c, d) M2 with
      | none =>
        rw [hy] at hlook
        have hlk2 : (Instr.lookup 63 (.map (some b2)) (.agg #[.int .i64 c, .int .i64 d]) true).run Tryd.prog wB = .ok (.tuple #[contV zeroC none 0 0, .bool false]) wB := hlook
        have HNO : Hid (eqMB M1 M2 = false) := eqMB_no HIM.out (by unfold okAt; rw [HXM.out, hy])
        obtain ⟨wN, wE, hwN, hwE, hrN, hrE, hxE, hsE, hxN, hsN⟩ := boxR wB (zeroC, none)
        rw [hsB] at hrN hwE
        have HRN := Lib.hid hrN
        have HWN := Lib.hid hwE
        have HXE := Lib.hid (HX3.out.trans (HXB.out.trans hxE))
        clear hlook hy hrN hwE hrE hxE hxN
        go_wp2_with (first | (refine wpList_store_row (P := Tryd.prog) rfl 33 _ _ rfl (w3.heap.size + 1) #[.int .i64 x.1.kind, .int .i64 x.1.v.kind, .float .f64 x.1.v.x, .string x.1.v.s, .bool x.1.v.b, .int .i64 x.1.v.f, .int .i64 x.1.t.kind, .int .i64 x.1.t.op, .float .f64 x.1.t.x, .string x.1.t.s, .bool x.1.t.b, .int .i64 x.1.t.f, .int .i64 x.1.t.ref.a.1, .int .i64 x.1.t.ref.a.2, .bool x.1.t.ref.cf, .bool x.1.t.ref.rf, .int .i64 x.1.t.to.a.1, .int .i64 x.1.t.to.a.2, .bool x.1.t.to.cf, .bool x.1.t.to.rf, .slice x.2 x.1.t.args.length x.1.t.args.length] rfl rfl 33 _ HRZ.out (by kernel_rfl) rfl (by simp [Value.oneCell']) ?_; rw [HWB.out]) | (refine wpList_store_row (P := Tryd.prog) rfl 33 _ _ rfl (w3.heap.size + 2) #[.int .i64 zeroC.kind, .int .i64 zeroC.v.kind, .float .f64 zeroC.v.x, .string zeroC.v.s, .bool zeroC.v.b, .int .i64 zeroC.v.f, .int .i64 zeroC.t.kind, .int .i64 zeroC.t.op, .float .f64 zeroC.t.x, .string zeroC.t.s, .bool zeroC.t.b, .int .i64 zeroC.t.f, .int .i64 zeroC.t.ref.a.1, .int .i64 zeroC.t.ref.a.2, .bool zeroC.t.ref.cf, .bool zeroC.t.ref.rf, .int .i64 zeroC.t.to.a.1, .int .i64 zeroC.t.to.a.2, .bool zeroC.t.to.cf, .bool zeroC.t.to.rf, .slice none zeroC.t.args.length zeroC.t.args.length] rfl rfl 33 _ HRN.out (by kernel_rfl) rfl (by simp [Value.oneCell']) ?_; rw [HWN.out]))
        go_ret
        exact ⟨by rw [HNO.out]; rfl, HXE.out⟩
      | some y =>
        rw [hy] at hlook
        have hlk2 : (Instr.lookup 63 (.map (some b2)) (.agg #[.int .i64 c, .int .i64 d]) true).run Tryd.prog wB = .ok (.tuple #[ceV y, .bool true]) wB := hlook
        obtain ⟨wN, wE, hwN, hwE, hrN, hrE, hxE, hsE, hxN, hsN⟩ := boxR wB y
        rw [hsB] at hrN hwE hrE
        have HRN := Lib.hid hrN
        have HWN := Lib.hid hwE
        have hrB2 := (hxE.block (w3.heap.size + 1) (by omega)).trans HRB.out
        have HRX := Lib.hid hrB2
        have HRY := Lib.hid hrE
        have HXE := Lib.hid (HX3.out.trans (HXB.out.trans hxE))
        have HC := Lib.hid (gsame_in (HCX.out _ HXE.out) (HCY.out _ y hy HXE.out))
        have HOKA : Hid (okAt M1 M2 (c, d) = sameCB x.1 y.1) := by unfold Hid okAt; rw [HXM.out, hy]
        have hIE := hI2.of_heap (w' := wE) (((HXB.out.trans hxE).block b1 hI2.map.lt)) ((HXB.out.trans hxE).block r hI2.lt)
        clear hlook hy hrE hxE hrB2 hI2 hrN hwE hxN
        cases hsm : sameCB x.1 y.1
        · rw [hsm] at HC HOKA
          go_wp2_with (first
            | (refine wpList_store_row (P := Tryd.prog) rfl 33 _ _ rfl (w3.heap.size + 1) #[.int .i64 x.1.kind, .int .i64 x.1.v.kind, .float .f64 x.1.v.x, .string x.1.v.s, .bool x.1.v.b, .int .i64 x.1.v.f, .int .i64 x.1.t.kind, .int .i64 x.1.t.op, .float .f64 x.1.t.x, .string x.1.t.s, .bool x.1.t.b, .int .i64 x.1.t.f, .int .i64 x.1.t.ref.a.1, .int .i64 x.1.t.ref.a.2, .bool x.1.t.ref.cf, .bool x.1.t.ref.rf, .int .i64 x.1.t.to.a.1, .int .i64 x.1.t.to.a.2, .bool x.1.t.to.cf, .bool x.1.t.to.rf, .slice x.2 x.1.t.args.length x.1.t.args.length] rfl rfl 33 _ HRZ.out (by kernel_rfl) rfl (by simp [Value.oneCell']) ?_; rw [HWB.out])
            | (refine wpList_store_row (P := Tryd.prog) rfl 33 _ _ rfl (w3.heap.size + 2) #[.int .i64 y.1.kind, .int .i64 y.1.v.kind, .float .f64 y.1.v.x, .string y.1.v.s, .bool y.1.v.b, .int .i64 y.1.v.f, .int .i64 y.1.t.kind, .int .i64 y.1.t.op, .float .f64 y.1.t.x, .string y.1.t.s, .bool y.1.t.b, .int .i64 y.1.t.f, .int .i64 y.1.t.ref.a.1, .int .i64 y.1.t.ref.a.2, .bool y.1.t.ref.cf, .bool y.1.t.ref.rf, .int .i64 y.1.t.to.a.1, .int .i64 y.1.t.to.a.2, .bool y.1.t.to.cf, .bool y.1.t.to.rf, .slice y.2 y.1.t.args.length y.1.t.args.length] rfl rfl 33 _ HRN.out (by kernel_rfl) rfl (by simp [Value.oneCell']) ?_; rw [HWN.out])
            | (refine BigFrame.wpList_want (by rfl) (fun K hK => wp_load_row 33 _ rfl (w3.heap.size + 1) rfl 33 _ (0, 0) _ HRX.out Tryd.underlying33 rfl (by kernel_rfl) (hK _ _ ?_)); clear hK K)
            | (refine BigFrame.wpList_want (by rfl) (fun K hK => wp_load_row 33 _ rfl (w3.heap.size + 2) rfl 33 _ (0, 0) _ HRY.out Tryd.underlying33 rfl (by kernel_rfl) (hK _ _ ?_)); clear hK K)
            | (refine (HC.out).mono ?_; rintro e w6 ⟨rfl, hg6⟩; have HG6 := Lib.hid hg6; clear hg6))
          go_ret
          exact ⟨by rw [eqMB_no HIM.out HOKA.out]; rfl, HXE.out.trans HG6.out.xt⟩
        · rw [hsm] at HC HOKA
          go_wp2_with (first
            | (refine wpList_store_row (P := Tryd.prog) rfl 33 _ _ rfl (w3.heap.size + 1) #[.int .i64 x.1.kind, .int .i64 x.1.v.kind, .float .f64 x.1.v.x, .string x.1.v.s, .bool x.1.v.b, .int .i64 x.1.v.f, .int .i64 x.1.t.kind, .int .i64 x.1.t.op, .float .f64 x.1.t.x, .string x.1.t.s, .bool x.1.t.b, .int .i64 x.1.t.f, .int .i64 x.1.t.ref.a.1, .int .i64 x.1.t.ref.a.2, .bool x.1.t.ref.cf, .bool x.1.t.ref.rf, .int .i64 x.1.t.to.a.1, .int .i64 x.1.t.to.a.2, .bool x.1.t.to.cf, .bool x.1.t.to.rf, .slice x.2 x.1.t.args.length x.1.t.args.length] rfl rfl 33 _ HRZ.out (by kernel_rfl) rfl (by simp [Value.oneCell']) ?_; rw [HWB.out])
            | (refine wpList_store_row (P := Tryd.prog) rfl 33 _ _ rfl (w3.heap.size + 2) #[.int .i64 y.1.kind, .int .i64 y.1.v.kind, .float .f64 y.1.v.x, .string y.1.v.s, .bool y.1.v.b, .int .i64 y.1.v.f, .int .i64 y.1.t.kind, .int .i64 y.1.t.op, .float .f64 y.1.t.x, .string y.1.t.s, .bool y.1.t.b, .int .i64 y.1.t.f, .int .i64 y.1.t.ref.a.1, .int .i64 y.1.t.ref.a.2, .bool y.1.t.ref.cf, .bool y.1.t.ref.rf, .int .i64 y.1.t.to.a.1, .int .i64 y.1.t.to.a.2, .bool y.1.t.to.cf, .bool y.1.t.to.rf, .slice y.2 y.1.t.args.length y.1.t.args.length] rfl rfl 33 _ HRN.out (by kernel_rfl) rfl (by simp [Value.oneCell']) ?_; rw [HWN.out])
            | (refine BigFrame.wpList_want (by rfl) (fun K hK => wp_load_row 33 _ rfl (w3.heap.size + 1) rfl 33 _ (0, 0) _ HRX.out Tryd.underlying33 rfl (by kernel_rfl) (hK _ _ ?_)); clear hK K)
            | (refine BigFrame.wpList_want (by rfl) (fun K hK => wp_load_row 33 _ rfl (w3.heap.size + 2) rfl 33 _ (0, 0) _ HRY.out Tryd.underlying33 rfl (by kernel_rfl) (hK _ _ ?_)); clear hK K)
            | (refine (HC.out).mono ?_; rintro e w6 ⟨rfl, hg6⟩; have HG6 := Lib.hid hg6; clear hg6))
          have hI6 := hIE.of_heap (w' := w6) (HG6.out.xt.block b1 hIE.map.lt) (HG6.out.xt.block r hIE.lt)
          go_roundg (l1 ++ l2).length
          case rel => exact ⟨l1 ++ l2, _, ks ++ [(c, d)], rfl, HP', HIN', hI6, fun a ha => by rcases List.mem_append.1 ha with h | h; exact HOK.out a h; rw [List.mem_singleton.1 h]; exact HOKA.out, HXE.out.trans HG6.out.xt⟩
          case measure => rw [HL3.out]; simp
end Go.Proofs.YtfpdleljhbkehaaDoor
/- Equal of two grids. -/
namespace Go.Proofs.YtfpdleljhbkehaaDoor
open Go.RowKit Go.Sort Go.Maps

set_option maxRecDepth 100000 in
set_option maxHeartbeats 4000000 in
theorem gequal_any (g1 g2 b1 b2 : Nat) (M1 M2 : GM) (w : World) (h1 : GridIs w g1 b1 M1) (h2 : GridIs w g2 b2 M2) :
    Calls Tryd.prog 15 #[.pointer (some ⟨g1, 0, none⟩), .pointer (some ⟨g2, 0, none⟩)] w fun e w' => e = .returned (.bool (eqMB M1 M2)) ∧ Xt w w' := by
  have c1 := h1.cell
  have c2 := h2.cell
  have HM := Lib.hid (meq_any b1 b2 M1 M2 w.drew (h1.mapG.xt (Xt.refl w).drew) (h2.mapG.xt (Xt.refl w).drew))
  clear h1 h2
  go_enter Tryd.func15, Tryd.ntmps15
  go_wp2_with fail
  refine wp_region_still_tail 15 (by kernel_rfl) (by kernel_rfl) ?_
  change wpStill _ _ (World.drew _) _ _ _
  simp only [List.take_succ_cons, List.take_zero, List.drop_succ_cons, List.drop_zero]
  still_step
  still_step
  still_step
  still_step
  still_step
  still_step
  still_step
  still_step
  still_step
  still_step
  still_step
  still_step
  still_step
  still_step
  still_step
  refine wpStill_nil ?_
  change wpList _ _ _ _ _ (World.drew _)
  refine wpList_step (fun K hK => ?_)
  go_simp
  refine HM.out.mono ?_
  rintro e w5 ⟨rfl, hx⟩
  refine hK _ _ ?_
  clear hK K
  have HX := Lib.hid hx
  clear hx
  go_wp2_with fail
  go_ret
  exact ⟨rfl, (Xt.refl w).drew.trans HX.out⟩
end Go.Proofs.YtfpdleljhbkehaaDoor
/- maps.Copy of grids' maps: the goal has both maps' cells. -/
namespace Go.Proofs.YtfpdleljhbkehaaDoor
open Go.RowKit Go.Sort Go.Maps

/-! ### maps.Copy (made by mk48.py) -/
theorem grown_on {a b c : World} {m : Nat} {r : Option Nat} (h : a.grownBy b (some m)) (k : b.grownBy c r) (hr : ∀ j, r = some j → j = m ∨ a.heap.size ≤ j) : a.grownBy c (some m) :=
  ⟨k.os.trans h.os, k.tape.trans h.tape, k.output.trans h.output, Nat.le_trans h.size k.size, fun i hi hne => (k.block i (Nat.lt_of_lt_of_le hi h.size) (fun e => by
    rcases hr i e.symm with rfl | h2
    · exact hne rfl
    · omega)).trans (h.block i hi hne)⟩
theorem grown_xt {a b c : World} {m : Nat} (h : a.grownBy b (some m)) (k : Xt b c) : a.grownBy c (some m) := grown_on h (k.grown none) (fun j e => by cases e)
set_option maxRecDepth 100000 in
set_option maxHeartbeats 4000000 in
theorem mcopy_any (bd b2 : Nat) (Ed : List (Ad × Value)) (M2 : GM) (w : World) (hne : bd ≠ b2) (hd : MapIs w bd Ed) (h2 : MapG w b2 M2) :
    Calls Tryd.prog 35 #[.map (some bd), .map (some b2)] w fun e w' => (∃ v, e = .returned v) ∧ (∃ E', MapIs w' bd E' ∧ ∀ a, (lk a E').isSome = ((lk a Ed).isSome || (lkM a M2).isSome)) ∧ w.grownBy w' (some bd) := by
  have H2 := Lib.hid h2
  have HD := Lib.hid hd
  obtain ⟨E2, hm2, he2, hl2, hp2⟩ := h2.map
  have HE2 := Lib.hid he2
  have HP2 := Lib.hid hp2
  have HND := Lib.hid hm2.nodup
  clear h2 he2 hl2 hp2 hd
  go_enter Tryd.func35, Tryd.ntmps35
  go_wp2_with (first | (at_range; refine wpList_range_it _ rfl _ 63 26 33 rfl Tryd.underlying63 b2 E2 rfl hm2 ?_; intro w2 hI hg2 hs2; go_frame))
  have HX2 : Hid (w.grownBy w2 (some bd)) := hg2.xt.grown _
  have hMD : MapIs w2 bd Ed := HD.out.of_heap (hg2.xt.block bd HD.out.lt)
  obtain ⟨r, hr⟩ : ∃ r, w.heap.size = r := ⟨_, rfl⟩
  rw [hr] at hI hs2 ⊢
  have HR := Lib.hid hr
  clear hr hg2 hs2 hm2
  go_loopg [8] E2.length (fun k _ wr => ∃ left cur ks E', left.length = k ∧ Hid ((ks ++ left.map (·.1)).Perm (E2.map (·.1))) ∧ Hid (∀ x ∈ left, x ∈ E2) ∧ IterIs wr r b2 E2 left cur ∧ MapIs wr bd E' ∧ Hid (∀ a, (lk a E').isSome = ((lk a Ed).isSome || decide (a ∈ ks))) ∧ Hid (w.grownBy wr (some bd)))
  case atStart => exact ⟨E2, none, [], Ed, rfl, by unfold Hid; simp, fun _ h => h, hI, hMD, fun a => by simp, HX2⟩
  case round =>
    clear HX2 hI hMD
    obtain ⟨left, cur, ks, E', rfl, HP, HIN, hI1, hMD, HOK, HX⟩ := hrel
    go_wp2_with (at_next; refine wpList_next_it _ rfl _ rfl _ _ _ _ _ rfl hI1 ?_ ?_)
    · intro hdone
      subst hdone
      go_wp2_with fail
      go_end0
      have hp := HP.out
      simp only [List.map_nil, List.append_nil] at hp
      refine ⟨⟨_, rfl⟩, ⟨E', hMD, fun a => ?_⟩, HX.out⟩
      rw [HOK.out a]
      congr 1
      rw [Bool.eq_iff_iff, decide_eq_true_eq, lkM_mem_iff]
      exact hp.mem_iff.trans HP2.out.mem_iff
    · intro c d v l1 l2 w3 hl hI2 hg3 hs3 hen
      have HL3 := Lib.hid hl
      have HP' : Hid (((ks ++ [(c, d)]) ++ (l1 ++ l2).map (·.1)).Perm (E2.map (·.1))) := by
        refine List.Perm.trans ?_ HP.out
        rw [hl]
        simp only [List.map_append, List.map_cons, List.append_assoc, List.singleton_append]
        exact List.Perm.append_left _ List.perm_middle.symm
      have HIN' : Hid (∀ x ∈ l1 ++ l2, x ∈ E2) := fun x hx => HIN.out x (by rw [hl]; rcases List.mem_append.1 hx with h | h <;> simp [h])
      have hlk : lk (c, d) E2 = some v := lk_in HND.out (HIN.out _ (by rw [hl]; simp))
      rw [HE2.out] at hlk
      obtain ⟨x, hx, rfl⟩ := Option.map_eq_some_iff.1 hlk
      have hgw3 : w.grownBy w3 (some bd) := grown_on HX.out hg3 (fun j e => by cases e; right; rw [HR.out]; exact Nat.le_refl _)
      have hM3 : MapIs w3 bd E' := hMD.of_heap (hg3.block bd hMD.lt (fun e => by cases e; have := HD.out.lt; have := HR.out; omega))
      obtain ⟨wA, hwA, hbA, hsA, kA0, kA1⟩ := box1 w3 c d 26
      obtain ⟨wZ, wB, hwZ, hwB, hrZ, hrB, hxB1, hsB, hxZ, hsZ⟩ := boxR wA x
      rw [hsA] at hrZ hrB hwB hsB
      have hxB : Xt w3 wB := by refine Xt.trans ?_ hxB1; rw [← hwA]; exact (Xt.refl w3).alloc _
      have kB0 : wB.cell? ⟨w3.heap.size, 0, none⟩ = some (.int .i64 c) := ((hxB1.cells).1 _ 0 (by omega)).trans kA0
      have kB1 : wB.cell? ⟨w3.heap.size, 1, none⟩ = some (.int .i64 d) := ((hxB1.cells).1 _ 1 (by omega)).trans kA1
      have hMB : MapIs wB bd E' := hM3.of_heap (hxB.block bd hM3.lt)
      have hIB := hI2.of_heap (w' := wB) (hxB.block b2 hI2.map.lt) (hxB.block r hI2.lt)
      have HGB : Hid (w.grownBy wB (some bd)) := grown_xt hgw3 hxB
      have HRZ := Lib.hid hrZ
      have HRB := Lib.hid hrB
      have HWB := Lib.hid hwB
      clear hl hI1 hs3 hg3 hlk HIN HP hMD hM3 hgw3 hbA kA0 kA1 hrZ hwB hxB1 hxZ hI2 hxB hrB hx
      go_wp2_with (first
        | (refine wpList_store_row (P := Tryd.prog) rfl 33 _ _ rfl (w3.heap.size + 1) #[.int .i64 x.1.kind, .int .i64 x.1.v.kind, .float .f64 x.1.v.x, .string x.1.v.s, .bool x.1.v.b, .int .i64 x.1.v.f, .int .i64 x.1.t.kind, .int .i64 x.1.t.op, .float .f64 x.1.t.x, .string x.1.t.s, .bool x.1.t.b, .int .i64 x.1.t.f, .int .i64 x.1.t.ref.a.1, .int .i64 x.1.t.ref.a.2, .bool x.1.t.ref.cf, .bool x.1.t.ref.rf, .int .i64 x.1.t.to.a.1, .int .i64 x.1.t.to.a.2, .bool x.1.t.to.cf, .bool x.1.t.to.rf, .slice x.2 x.1.t.args.length x.1.t.args.length] rfl rfl 33 _ HRZ.out (by kernel_rfl) rfl (by simp [Value.oneCell']) ?_; rw [HWB.out])
        | (refine BigFrame.wpList_want (by rfl) (fun K hK => wp_load_row 33 _ rfl (w3.heap.size + 1) rfl 33 _ (0, 0) _ HRB.out Tryd.underlying33 rfl (by kernel_rfl) (hK _ _ ?_)); clear hK K)
        | (at_mapUpdate; refine wpList_update_it _ rfl _ _ _ 63 26 33 rfl adrKey Tryd.underlying63 bd E' rfl c d rfl _ rfl hMB ?_; intro w6 hM6 hg6 hs6))
      have hI6 := hIB.of_heap (w' := w6) (hg6.block b2 hIB.map.lt (fun e => by cases e; exact hne rfl)) (hg6.block r hIB.lt (fun e => by cases e; have := HD.out.lt; have := HR.out; omega))
      go_roundg (l1 ++ l2).length
      case rel =>
        refine ⟨l1 ++ l2, _, ks ++ [(c, d)], _, rfl, HP', HIN', hI6, hM6, fun a => ?_, grown_on HGB.out hg6 (fun j e => by cases e; exact Or.inl rfl)⟩
        rw [lk_up]
        by_cases ha : (c, d) = a
        · subst ha; simp
        · rw [if_neg ha, HOK.out a]
          have : ¬ a = (c, d) := fun e => ha e.symm
          simp [this]
      case measure => rw [HL3.out]; simp
end Go.Proofs.YtfpdleljhbkehaaDoor
