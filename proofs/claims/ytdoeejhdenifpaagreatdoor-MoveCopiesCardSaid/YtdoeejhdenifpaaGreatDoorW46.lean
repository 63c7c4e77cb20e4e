/- Two grids' maps are equal: maps.EqualFunc under grid.Same. -/
import Derived.Test.YtdoeejhdenifpaaGreatDoorW45
import Derived.Test.YtdoeejhdenifpaaGreatDoorA11
namespace Go.Proofs.YtdoeejhdenifpaaGreatDoor
open Go.RowKit Go.Sort Go.Maps
theorem lk_in {c : Ad} {v : Value} : ∀ {E : List (Ad × Value)}, (E.map (·.1)).Nodup → (c, v) ∈ E → lk c E = some v
 | [], _, h => by simp at h
 | x :: r, hn, h => by
  unfold lk
  rw [List.map_cons, List.nodup_cons] at hn
  rcases List.mem_cons.1 h with rfl | h
  · simp
  · have : ¬ x.1 = c := fun e => hn.1 (e ▸ List.mem_map.2 ⟨_, h, rfl⟩)
    simp only [this, if_false]
    exact lk_in hn.2 h
noncomputable def okAt (M1 M2 : GM) (a : Ad) : Bool := match lkM a M1, lkM a M2 with
 | some x, some y => sameCB x.1 y.1
 | _, _ => false
noncomputable def eqMB (M1 M2 : GM) : Bool := decide (M1.length = M2.length) && (M1.map (·.1)).all (okAt M1 M2)
theorem eqMB_len {M1 M2 : GM} (h : ¬ M1.length = M2.length) : eqMB M1 M2 = false := by simp [eqMB, h]
theorem eqMB_no {M1 M2 : GM} {a : Ad} (ha : a ∈ M1.map (·.1)) (h : okAt M1 M2 a = false) : eqMB M1 M2 = false := by
 have : (M1.map (·.1)).all (okAt M1 M2) = false := by
  rw [List.all_eq_false]; exact ⟨a, ha, by simp [h]⟩
 simp [eqMB, this]
theorem eqMB_yes {M1 M2 : GM} (h : M1.length = M2.length) (hk : ∀ a ∈ M1.map (·.1), okAt M1 M2 a = true) : eqMB M1 M2 = true := by
 have : (M1.map (·.1)).all (okAt M1 M2) = true := List.all_eq_true.2 hk
 simp [eqMB, this, h]
structure MapG (w : World) (mb : Nat) (M : GM) : Prop where
 map : ∃ E, MapIs w mb E ∧ (∀ a, lk a E = (lkM a M).map ceV) ∧ E.length = M.length ∧ (E.map (·.1)).Perm (M.map (·.1))
 args : ∀ x ∈ M, ceIn w x.2
theorem GridIs.mapG {w : World} {gb mb : Nat} {M : GM} (h : GridIs w gb mb M) : MapG w mb M := by
 obtain ⟨E, hm, he⟩ := h.map
 exact ⟨⟨E, hm, he, h.len hm he, h.keys hm he⟩, h.args⟩
theorem MapG.xt {w w' : World} {mb : Nat} {M : GM} (h : MapG w mb M) (hx : Xt w w') : MapG w' mb M := by
 obtain ⟨E, hm, r⟩ := h.map
 exact ⟨⟨E, hm.of_heap (hx.block mb hm.lt), r⟩, fun x hx' => (h.args x hx').kept hx.cellsIn⟩
theorem args_up {w : World} : ∀ {n m : Nat} {av : Value} {l : List NodeT}, n ≤ m → ArgsIn w n av l → ArgsIn w m av l
 | 0, 0, _, _, _, h => h
 | 0, m + 1, _, _, _, h => by obtain ⟨rfl, a, cap, rfl, hc⟩ := h; exact ⟨a, cap, rfl, Nat.zero_le _, hc, fun h => absurd rfl h⟩
 | n + 1, 0, _, _, hl, _ => absurd hl (by omega)
 | n + 1, m + 1, _, _, hl, h => by
  obtain ⟨a, cap, rfl, h1, h2, h3⟩ := h
  refine ⟨a, cap, rfl, h1, h2, fun hne => ?_⟩
  obtain ⟨b, off, rfl, hc⟩ := h3 hne
  exact ⟨b, off, rfl, fun k t ht => let ⟨av', q1, q2⟩ := hc k t ht; ⟨av', q1, args_up (by omega) q2⟩⟩
theorem gsame_in {w : World} {x y : CE} (hx : ceIn w x) (hy : ceIn w y) : Calls Tryz.prog 17 #[ceV x, ceV y] w fun e w' => e = .returned (.bool (sameCB x.1 y.1)) ∧ Gr w w' := by
 obtain ⟨_, n, h1⟩ := hx
 obtain ⟨_, m, h2⟩ := hy
 exact gsame_any (max n m) x.1 y.1 x.2 y.2 _ _ w (args_up (Nat.le_max_left ..) h1) (args_up (Nat.le_max_right ..) h2)
set_option maxRecDepth 100000 in
set_option maxHeartbeats 4000000 in
theorem meq_any (b1 b2 : Nat) (M1 M2 : GM) (w : World) (h1 : MapG w b1 M1) (h2 : MapG w b2 M2) :
    Calls Tryz.prog 55 #[.map (some b1), .map (some b2), .func (.func 17) #[] #[]] w fun e w' => e = .returned (.bool (eqMB M1 M2)) ∧ Xt w w' := by
 have H1 := Lib.hid h1
 have H2 := Lib.hid h2
 obtain ⟨E1, hm1, he1, hl1, hp1⟩ := h1.map
 obtain ⟨E2, hm2, he2, hl2, hp2⟩ := h2.map
 have q1 : ∀ ty, (Builtin.len_ #[100] ty #[.map (some b1)]).run Tryz.prog w = .ok (.int .i64 M1.length) w := fun ty => by rw [← hl1]; exact hm1.len Tryz.underlying100
 have q2 : ∀ ty, (Builtin.len_ #[100] ty #[.map (some b2)]).run Tryz.prog w = .ok (.int .i64 M2.length) w := fun ty => by rw [← hl2]; exact hm2.len Tryz.underlying100
 by_cases hl : M1.length = M2.length
 rotate_left
 · have hne : ((M1.length : Int) == (M2.length : Int)) = false := by simp; omega
   have HN := Lib.hid (eqMB_len hl)
   clear hl h1 h2 hm1 he1 hl1 hp1 hm2 he2 hl2 hp2
   go_enter Tryz.func55, Tryz.ntmps55
   go_wp2_with fail
   go_ret
   exact ⟨by rw [HN.out]; rfl, Xt.refl _⟩
 have HL := Lib.hid hl
 have HE1 := Lib.hid he1
 have HE2 := Lib.hid he2
 have HP1 := Lib.hid hp1
 have HND := Lib.hid hm1.nodup
 rw [← hl] at q2
 clear hl h1 h2 he1 hl1 hp1 he2 hl2 hp2
 go_enter Tryz.func55, Tryz.ntmps55
 go_wp2_with (first | (at_range; refine wpList_range_it _ rfl _ 100 24 51 rfl Tryz.underlying100 b1 E1 rfl hm1 ?_; intro w2 hI hg2 hs2; go_frame))
 have HX2 : Hid (Xt w w2) := hg2.xt
 obtain ⟨r, hr⟩ : ∃ r, w.heap.size = r := ⟨_, rfl⟩
 rw [hr] at hI hs2 ⊢
 have HR := Lib.hid hr
 clear hr hg2 hs2 q1 q2
 go_loopg [18] E1.length (fun k _ wr => ∃ left cur ks, left.length = k ∧ Hid ((ks ++ left.map (·.1)).Perm (E1.map (·.1))) ∧ Hid (∀ x ∈ left, x ∈ E1) ∧ IterIs wr r b1 E1 left cur ∧ Hid (∀ a ∈ ks, okAt M1 M2 a = true) ∧ Hid (Xt w wr))
 case atStart => exact ⟨E1, none, [], rfl, by unfold Hid; simp, fun _ h => h, hI, fun _ h => absurd h (by simp), HX2⟩
 case round =>
  clear HX2 hI
  obtain ⟨left, cur, ks, rfl, HP, HIN, hI1, HOK, HX⟩ := hrel
  go_wp2_with (at_next; refine wpList_next_it _ rfl _ rfl _ _ _ _ _ rfl hI1 ?_ ?_)
  · intro hdone
    subst hdone
    go_wp2_with fail
    go_ret
    have hp := HP.out
    simp only [List.map_nil, List.append_nil] at hp
    refine ⟨?_, HX.out⟩
    rw [eqMB_yes HL.out fun a ha => HOK.out a (hp.mem_iff.2 (HP1.out.mem_iff.2 ha))]
    rfl
  · intro c d v l1 l2 w3 hl hI2 hg3 hs3 hen
    have HL3 := Lib.hid hl
    have HP' : Hid (((ks ++ [(c, d)]) ++ (l1 ++ l2).map (·.1)).Perm (E1.map (·.1))) := by
     refine List.Perm.trans ?_ HP.out
     rw [hl]
     simp only [List.map_append, List.map_cons, List.append_assoc, List.singleton_append]
     exact List.Perm.append_left _ List.perm_middle.symm
    have HIN' : Hid (∀ x ∈ l1 ++ l2, x ∈ E1) := fun x hx => HIN.out x (by rw [hl]; rcases List.mem_append.1 hx with h | h <;> simp [h])
    have hlk : lk (c, d) E1 = some v := lk_in HND.out (HIN.out _ (by rw [hl]; simp))
    have hin : (c, d) ∈ M1.map (·.1) := HP1.out.mem_iff.1 (List.mem_map.2 ⟨_, HIN.out ((c, d), v) (by rw [hl]; simp), rfl⟩)
    rw [HE1.out] at hlk
    obtain ⟨x, hx, rfl⟩ := Option.map_eq_some_iff.1 hlk
    have HXM := Lib.hid hx
    have HIM := Lib.hid hin
    have hX3 : Xt w w3 := HX.out.grownB hg3 (fun m hm => by cases hm; rw [HR.out]; exact Nat.le_refl _)
    clear hl hI1 hs3 hg3 hlk hin hx HIN HP
    obtain ⟨wA, hwA, hbA, hsA, kA0, kA1⟩ := box1 w3 c d 24
    obtain ⟨wZ, wB, hwZ, hwB, hrZ, hrB, hxB1, hsB, hxZ, hsZ⟩ := boxR wA x
    rw [hsA] at hrZ hrB hwB
    have hxB : Xt w3 wB := by refine Xt.trans ?_ hxB1; rw [← hwA]; exact (Xt.refl w3).alloc _
    rw [hsA] at hsB
    have hmB := H2.out.xt (hX3.trans hxB)
    obtain ⟨E2', hm2', he2', _, _⟩ := hmB.map
    have hlook := MapIs.lookup_ok (P := Tryz.prog) (t := 100) (k := 24) (e := 51) adrKey Tryz.underlying100 zeroCon hm2' (c, d)
    have hcx : ceIn w (x.1, x.2) := H1.out.args _ (lkM_mem HXM.out)
    have HCX := Lib.hid (fun W (h : Xt w W) => hcx.kept h.cellsIn)
    have HCY := Lib.hid (fun W (y : CE) (hy : lkM (c, d) M2 = some y) (h : Xt w W) => (H2.out.args _ (lkM_mem hy)).kept h.cellsIn)
    have kB0 : wB.cell? ⟨w3.heap.size, 0, none⟩ = some (.int .i64 c) := ((hxB1.cells).1 _ 0 (by omega)).trans kA0
    have kB1 : wB.cell? ⟨w3.heap.size, 1, none⟩ = some (.int .i64 d) := ((hxB1.cells).1 _ 1 (by omega)).trans kA1
    rw [he2'] at hlook
    have HRB := Lib.hid hrB
    have HXB := Lib.hid hxB
    have HX3 := Lib.hid hX3
    have HRZ := Lib.hid hrZ
    have HWB := Lib.hid hwB
    clear hmB hm2' he2' hcx hrB hxB hX3 hbA kA0 kA1 hrZ hwB hxB1 hxZ
    cases hy : lkM (c, d) M2 with
    | none =>
     rw [hy] at hlook
     have hlk2 : (Instr.lookup 100 (.map (some b2)) (.agg #[.int .i64 c, .int .i64 d]) true).run Tryz.prog wB = .ok (.tuple #[contV zeroC none 0 0, .bool false]) wB := hlook
     have HNO : Hid (eqMB M1 M2 = false) := eqMB_no HIM.out (by unfold okAt; rw [HXM.out, hy])
     obtain ⟨wN, wE, hwN, hwE, hrN, hrE, hxE, hsE, hxN, hsN⟩ := boxR wB (zeroC, none)
     rw [hsB] at hrN hwE
     have HRN := Lib.hid hrN
     have HWN := Lib.hid hwE
     have HXE := Lib.hid (HX3.out.trans (HXB.out.trans hxE))
     clear hlook hy hrN hwE hrE hxE hxN
     go_wp2_with (first | (refine wpList_store_row (P := Tryz.prog) rfl 51 _ _ rfl (w3.heap.size + 1) #[.int .i64 x.1.kind, .int .i64 x.1.v.kind, .float .f64 x.1.v.x, .string x.1.v.s, .bool x.1.v.b, .int .i64 x.1.v.f, .int .i64 x.1.t.kind, .int .i64 x.1.t.op, .float .f64 x.1.t.x, .string x.1.t.s, .bool x.1.t.b, .int .i64 x.1.t.f, .int .i64 x.1.t.ref.a.1, .int .i64 x.1.t.ref.a.2, .bool x.1.t.ref.cf, .bool x.1.t.ref.rf, .int .i64 x.1.t.to.a.1, .int .i64 x.1.t.to.a.2, .bool x.1.t.to.cf, .bool x.1.t.to.rf, .slice x.2 x.1.t.args.length x.1.t.args.length] rfl rfl 51 _ HRZ.out (by kernel_rfl) rfl (by simp [Value.oneCell']) ?_; rw [HWB.out]) | (refine wpList_store_row (P := Tryz.prog) rfl 51 _ _ rfl (w3.heap.size + 2) #[.int .i64 zeroC.kind, .int .i64 zeroC.v.kind, .float .f64 zeroC.v.x, .string zeroC.v.s, .bool zeroC.v.b, .int .i64 zeroC.v.f, .int .i64 zeroC.t.kind, .int .i64 zeroC.t.op, .float .f64 zeroC.t.x, .string zeroC.t.s, .bool zeroC.t.b, .int .i64 zeroC.t.f, .int .i64 zeroC.t.ref.a.1, .int .i64 zeroC.t.ref.a.2, .bool zeroC.t.ref.cf, .bool zeroC.t.ref.rf, .int .i64 zeroC.t.to.a.1, .int .i64 zeroC.t.to.a.2, .bool zeroC.t.to.cf, .bool zeroC.t.to.rf, .slice none zeroC.t.args.length zeroC.t.args.length] rfl rfl 51 _ HRN.out (by kernel_rfl) rfl (by simp [Value.oneCell']) ?_; rw [HWN.out]))
     go_ret
     exact ⟨by rw [HNO.out]; rfl, HXE.out⟩
    | some y =>
     rw [hy] at hlook
     have hlk2 : (Instr.lookup 100 (.map (some b2)) (.agg #[.int .i64 c, .int .i64 d]) true).run Tryz.prog wB = .ok (.tuple #[ceV y, .bool true]) wB := hlook
     obtain ⟨wN, wE, hwN, hwE, hrN, hrE, hxE, hsE, hxN, hsN⟩ := boxR wB y
     rw [hsB] at hrN hwE hrE
     have HRN := Lib.hid hrN
     have HWN := Lib.hid hwE
     have hrB2 := (hxE.block (w3.heap.size + 1) (by omega)).trans HRB.out
     have HRX := Lib.hid hrB2
     have HRY := Lib.hid hrE
     have HXE := Lib.hid (HX3.out.trans (HXB.out.trans hxE))
     have HC := Lib.hid (gsame_in (HCX.out _ HXE.out) (HCY.out _ y hy HXE.out))
     have HOKA : Hid (okAt M1 M2 (c, d) = sameCB x.1 y.1) := by unfold Hid okAt; rw [HXM.out, hy]
     have hIE := hI2.of_heap (w' := wE) (((HXB.out.trans hxE).block b1 hI2.map.lt)) ((HXB.out.trans hxE).block r hI2.lt)
     clear hlook hy hrE hxE hrB2 hI2 hrN hwE hxN
     cases hsm : sameCB x.1 y.1
     · rw [hsm] at HC HOKA
       go_wp2_with (first
        | (refine wpList_store_row (P := Tryz.prog) rfl 51 _ _ rfl (w3.heap.size + 1) #[.int .i64 x.1.kind, .int .i64 x.1.v.kind, .float .f64 x.1.v.x, .string x.1.v.s, .bool x.1.v.b, .int .i64 x.1.v.f, .int .i64 x.1.t.kind, .int .i64 x.1.t.op, .float .f64 x.1.t.x, .string x.1.t.s, .bool x.1.t.b, .int .i64 x.1.t.f, .int .i64 x.1.t.ref.a.1, .int .i64 x.1.t.ref.a.2, .bool x.1.t.ref.cf, .bool x.1.t.ref.rf, .int .i64 x.1.t.to.a.1, .int .i64 x.1.t.to.a.2, .bool x.1.t.to.cf, .bool x.1.t.to.rf, .slice x.2 x.1.t.args.length x.1.t.args.length] rfl rfl 51 _ HRZ.out (by kernel_rfl) rfl (by simp [Value.oneCell']) ?_; rw [HWB.out])
        | (refine wpList_store_row (P := Tryz.prog) rfl 51 _ _ rfl (w3.heap.size + 2) #[.int .i64 y.1.kind, .int .i64 y.1.v.kind, .float .f64 y.1.v.x, .string y.1.v.s, .bool y.1.v.b, .int .i64 y.1.v.f, .int .i64 y.1.t.kind, .int .i64 y.1.t.op, .float .f64 y.1.t.x, .string y.1.t.s, .bool y.1.t.b, .int .i64 y.1.t.f, .int .i64 y.1.t.ref.a.1, .int .i64 y.1.t.ref.a.2, .bool y.1.t.ref.cf, .bool y.1.t.ref.rf, .int .i64 y.1.t.to.a.1, .int .i64 y.1.t.to.a.2, .bool y.1.t.to.cf, .bool y.1.t.to.rf, .slice y.2 y.1.t.args.length y.1.t.args.length] rfl rfl 51 _ HRN.out (by kernel_rfl) rfl (by simp [Value.oneCell']) ?_; rw [HWN.out])
        | (refine BigFrame.wpList_want (by rfl) (fun K hK => wp_load_row 51 _ rfl (w3.heap.size + 1) rfl 51 _ (0, 0) _ HRX.out Tryz.underlying51 rfl (by kernel_rfl) (hK _ _ ?_)); clear hK K)
        | (refine BigFrame.wpList_want (by rfl) (fun K hK => wp_load_row 51 _ rfl (w3.heap.size + 2) rfl 51 _ (0, 0) _ HRY.out Tryz.underlying51 rfl (by kernel_rfl) (hK _ _ ?_)); clear hK K)
        | (refine (HC.out).mono ?_; rintro e w6 ⟨rfl, hg6⟩; have HG6 := Lib.hid hg6; clear hg6))
       go_ret
       exact ⟨by rw [eqMB_no HIM.out HOKA.out]; rfl, HXE.out.trans HG6.out.xt⟩
     · rw [hsm] at HC HOKA
       go_wp2_with (first
        | (refine wpList_store_row (P := Tryz.prog) rfl 51 _ _ rfl (w3.heap.size + 1) #[.int .i64 x.1.kind, .int .i64 x.1.v.kind, .float .f64 x.1.v.x, .string x.1.v.s, .bool x.1.v.b, .int .i64 x.1.v.f, .int .i64 x.1.t.kind, .int .i64 x.1.t.op, .float .f64 x.1.t.x, .string x.1.t.s, .bool x.1.t.b, .int .i64 x.1.t.f, .int .i64 x.1.t.ref.a.1, .int .i64 x.1.t.ref.a.2, .bool x.1.t.ref.cf, .bool x.1.t.ref.rf, .int .i64 x.1.t.to.a.1, .int .i64 x.1.t.to.a.2, .bool x.1.t.to.cf, .bool x.1.t.to.rf, .slice x.2 x.1.t.args.length x.1.t.args.length] rfl rfl 51 _ HRZ.out (by kernel_rfl) rfl (by simp [Value.oneCell']) ?_; rw [HWB.out])
        | (refine wpList_store_row (P := Tryz.prog) rfl 51 _ _ rfl (w3.heap.size + 2) #[.int .i64 y.1.kind, .int .i64 y.1.v.kind, .float .f64 y.1.v.x, .string y.1.v.s, .bool y.1.v.b, .int .i64 y.1.v.f, .int .i64 y.1.t.kind, .int .i64 y.1.t.op, .float .f64 y.1.t.x, .string y.1.t.s, .bool y.1.t.b, .int .i64 y.1.t.f, .int .i64 y.1.t.ref.a.1, .int .i64 y.1.t.ref.a.2, .bool y.1.t.ref.cf, .bool y.1.t.ref.rf, .int .i64 y.1.t.to.a.1, .int .i64 y.1.t.to.a.2, .bool y.1.t.to.cf, .bool y.1.t.to.rf, .slice y.2 y.1.t.args.length y.1.t.args.length] rfl rfl 51 _ HRN.out (by kernel_rfl) rfl (by simp [Value.oneCell']) ?_; rw [HWN.out])
        | (refine BigFrame.wpList_want (by rfl) (fun K hK => wp_load_row 51 _ rfl (w3.heap.size + 1) rfl 51 _ (0, 0) _ HRX.out Tryz.underlying51 rfl (by kernel_rfl) (hK _ _ ?_)); clear hK K)
        | (refine BigFrame.wpList_want (by rfl) (fun K hK => wp_load_row 51 _ rfl (w3.heap.size + 2) rfl 51 _ (0, 0) _ HRY.out Tryz.underlying51 rfl (by kernel_rfl) (hK _ _ ?_)); clear hK K)
        | (refine (HC.out).mono ?_; rintro e w6 ⟨rfl, hg6⟩; have HG6 := Lib.hid hg6; clear hg6))
       have hI6 := hIE.of_heap (w' := w6) (HG6.out.xt.block b1 hIE.map.lt) (HG6.out.xt.block r hIE.lt)
       go_roundg (l1 ++ l2).length
       case rel => exact ⟨l1 ++ l2, _, ks ++ [(c, d)], rfl, HP', HIN', hI6, fun a ha => by rcases List.mem_append.1 ha with h | h; exact HOK.out a h; rw [List.mem_singleton.1 h]; exact HOKA.out, HXE.out.trans HG6.out.xt⟩
       case measure => rw [HL3.out]; simp
end Go.Proofs.YtdoeejhdenifpaaGreatDoor
