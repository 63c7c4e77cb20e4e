import Derived.Test.YtideclfpbpjebaaGreatDoorB12
namespace Go.Proofs.YtideclfpbpjebaaGreatDoor
section
open Go.RowKit Go.Sort

def OwnNIs (n : Nat) : Prop := ∀ (t : NodeT) (a : Option Addr) (cap : Nat) (w : World), smallT t → ArgsIn w n (.slice a t.args.length cap) t.args →
    Calls Tryz.prog 39 #[nodeV t a t.args.length cap] w fun e w' => ∃ a' c', e = .returned (nodeV t a' t.args.length c') ∧ OwnIn (fun b => w.heap.size ≤ b) w' n (.slice a' t.args.length c') t.args ∧ Xt w w'
set_option maxRecDepth 100000 in
set_option maxHeartbeats 4000000 in
theorem ownNode_any : ∀ n, OwnNIs n := by
  intro n
  induction n using Nat.strongRecOn with
  | ind n ih =>
    intro t a cap w hsm hin
    have IH := Lib.hid ih
    have HSM := Lib.hid hsm
    have HIN := Lib.hid hin
    obtain ⟨_, _, he, q1, q2⟩ := hin.shape
    cases he
    obtain ⟨w0, hw0, hg0, hs0, hN⟩ := boxN w t a t.args.length cap 44
    have HN := Lib.hid hN
    obtain ⟨c0, c1, c2, c3, c4, c5, c6, c7, c8, c9, c10, c11, c12, c13, c14⟩ := hN
    simp only [Nat.zero_add] at c0 c1 c2 c3 c4 c5 c6 c7 c8 c9 c10 c11 c12 c13 c14
    have HG0 := Lib.hid hg0
    clear hg0 hin ih hsm
    go_enter Tryz.func39, Tryz.ntmps39
    go_wp2_with fail
    obtain ⟨wZ, hwZ⟩ : ∃ wZ, w0.alloc (.cells #[.int .i64 0, .int .i64 0, .float .f64 0, .string ⟨#[]⟩, .bool false, .int .i64 0, .int .i64 0, .int .i64 0, .bool false, .bool false, .int .i64 0, .int .i64 0, .bool false, .bool false, .slice none 0 0] 44) = wZ := ⟨_, rfl⟩
    rw [hwZ]
    have hsZ : wZ.heap.size = w.heap.size + 1 + 1 := by rw [← hwZ]; simp [hs0]
    obtain ⟨wS, hwS⟩ : ∃ wS, wZ.alloc (.cells #[.int .i64 t.kind, .int .i64 t.op, .float .f64 t.x, .string t.s, .bool t.b, .int .i64 t.f, .int .i64 t.ref.a.1, .int .i64 t.ref.a.2, .bool t.ref.cf, .bool t.ref.rf, .int .i64 t.to.a.1, .int .i64 t.to.a.2, .bool t.to.cf, .bool t.to.rf, .slice none 0 0] 44) = wS := ⟨_, rfl⟩
    rw [hwS]
    have hsS : wS.heap.size = w.heap.size + 1 + 1 + 1 := by rw [← hwS]; simp [hsZ]
    have hxZ : Xt w wZ := by rw [← hwZ]; exact HG0.out.xt.alloc _
    have hxS : Xt w wS := by rw [← hwS]; exact hxZ.alloc _
    have hrZ : wS.heap[w.heap.size + 1]? = some (.cells #[.int .i64 0, .int .i64 0, .float .f64 0, .string ⟨#[]⟩, .bool false, .int .i64 0, .int .i64 0, .int .i64 0, .bool false, .bool false, .int .i64 0, .int .i64 0, .bool false, .bool false, .slice none 0 0] 44 (0, 0)) := by
      rw [← hwS]
      refine (Below.heap_alloc wZ _ _ (by omega)).trans ?_
      rw [← hwZ, ← hs0]; exact (MapKept.heap_alloc w0 _).1
    have hNS : NodeAt wS w.heap.size 0 t a t.args.length cap := by
      rw [← hwS, ← hwZ]; exact (HN.out.xt ((Xt.refl w0).alloc _)).xt ((Xt.refl _).alloc _)
    have hOS : NodeAt wS (w.heap.size + 1 + 1) 0 t none 0 0 := by
      rw [← hwS, ← hsZ]
      refine ⟨?_, ?_, ?_, ?_, ?_, ?_, ?_, ?_, ?_, ?_, ?_, ?_, ?_, ?_, ?_⟩ <;> (rw [World.cell?_alloc_new]; rfl)
    have hfS : wS.frozen? ⟨w.heap.size + 1 + 1, 14, none⟩ = false := by rw [← hwS, ← hsZ]; simp
    have HST : Hid (GSt w wS (w.heap.size + 1 + 1) wS.heap.size (fun x => x) n t t.args wS 0 none 0 0) := grow_start (fun x => x) n t.args (by omega) (by omega) hOS hfS hxS
    have HNS := Lib.hid hNS
    have HRZ := Lib.hid hrZ
    clear hwS hwZ hw0 hs0 hsZ hxZ hxS hrZ hNS hOS hfS HG0 HN c0 c1 c2 c3 c4 c5 c6 c7 c8 c9 c10 c11 c12 c13 c14
    go_loopw [4] (fun s4 wr => ∃ (i : Nat) (va : Option Addr) (vn vc : Nat), i ≤ t.args.length ∧ s4 = .int .i64 i ∧ Hid (GSt w wS (w.heap.size + 1 + 1) wS.heap.size (fun x => x) n t t.args wr i va vn vc)) (fun s4 _ => t.args.length - (intOf s4).toNat)
    case atStart => exact ⟨0, none, 0, 0, Nat.zero_le _, rfl, HST⟩
    case round =>
      clear HST
      obtain ⟨i, va, vn, vc, hi, rfl, HS⟩ := hrel
      have hNr : NodeAt wr w.heap.size 0 t a t.args.length cap := HNS.out.keep (fun o => World.cell?_of_block (w := wS) (a := ⟨w.heap.size, o, none⟩) (HS.out.keep w.heap.size (by omega) (by omega)))
      have hN14 := hNr.c14
      rw [Nat.zero_add] at hN14
      by_cases hlt : i < t.args.length
      · obtain ⟨x, hx⟩ : ∃ x, t.args[i]? = some x := ⟨t.args[i], by simp [hlt]⟩
        obtain ⟨n', b, off, xa, xc, hn', rfl, hNx0, hA⟩ := HIN.out.at hx
        have hbl : b < w.heap.size := World.block_lt_of_cell? w _ hNx0.c0
        have hNx := hNx0.xt HS.out.xt
        have hki : (i : Int) < (t.args.length : Int) := by omega
        have hO14 := HS.out.box.c14
        rw [Nat.zero_add] at hO14
        have hsmx : smallT x := smallL_at (smallT_args HSM.out).2 hx
        have hlen : t.args.length ≤ 1099511627744 := (smallT_args HSM.out).1
        have HC := Lib.hid (IH.out n' (by omega) x xa xc wr.drew hsmx ((hA.xt HS.out.xt).xt (Xt.refl wr).drew))
        clear hNx0 hA hNr
        go_wp2_with fail
        refine wp_region_held_drew (S := fun w' => w'.cell? ⟨w.heap.size, 14, none⟩ = some (.slice (some ⟨b, off, none⟩) t.args.length cap) ∧ NodeAt w' b (off + i * 15) x xa x.args.length xc) (by kernel_rfl) ⟨hN14, hNx.xt (Xt.refl wr).drew⟩ (fun hHeld => ?_)
        refine wpAnyH_take (i := 0) (oi := _) (v := ?_) rfl (by kernel_rfl) (by kernel_rfl) (by kernel_rfl) (fun _ _ _ h => h) (Or.inl ⟨by rfl, ?_⟩) (by assumption) ?_
        rotate_left
        · intro w hSw; go_simp; first | done | with_reducible rfl
        try simp only [Act.put, List.getElem_toArray, List.getElem_cons_zero, List.setIfInBounds_toArray, List.set_cons_zero, List.set_cons_succ]
        refine wpAnyH_take (i := 2) (oi := _) (v := ?_) rfl (by kernel_rfl) (by kernel_rfl) (by kernel_rfl) (fun _ _ _ h => h) (Or.inl ⟨by rfl, ?_⟩) (by assumption) ?_
        rotate_left
        · intro w hSw; go_simp; first | done | with_reducible rfl
        try simp only [Act.put, List.getElem_toArray, List.getElem_cons_zero, List.getElem_cons_succ, List.setIfInBounds_toArray, List.set_cons_zero, List.set_cons_succ]
        refine wpAnyH_take (i := 3) (oi := _) (v := ?_) rfl (by kernel_rfl) (by kernel_rfl) (by kernel_rfl) (fun _ _ _ h => h) (Or.inl ⟨by rfl, ?_⟩) (by assumption) ?_
        rotate_left
        · intro w hSw; (try dsimp only at hSw); have q14 := hSw.1; go_simp; first | done | with_reducible rfl
        try simp only [Act.put, List.getElem_toArray, List.getElem_cons_zero, List.getElem_cons_succ, List.setIfInBounds_toArray, List.set_cons_zero, List.set_cons_succ]
        refine wpAnyH_take (i := 4) (oi := _) (v := ?_) rfl (by kernel_rfl) (by kernel_rfl) (by kernel_rfl) (fun _ _ _ h => h) (Or.inl ⟨by rfl, ?_⟩) (by assumption) ?_
        rotate_left
        · intro w hSw; go_simp; first | done | with_reducible rfl
        try simp only [Act.put, List.getElem_toArray, List.getElem_cons_zero, List.getElem_cons_succ, List.setIfInBounds_toArray, List.set_cons_zero, List.set_cons_succ]
        refine wpAnyH_take (i := 5) (oi := _) (v := ?_) rfl (by kernel_rfl) (by kernel_rfl) (by kernel_rfl) (fun _ _ _ h => h) (Or.inl ⟨by rfl, ?_⟩) (by assumption) ?_
        rotate_left
        · intro w hSw; go_simp; first | done | with_reducible rfl
        try simp only [Act.put, List.getElem_toArray, List.getElem_cons_zero, List.getElem_cons_succ, List.setIfInBounds_toArray, List.set_cons_zero, List.set_cons_succ]
        refine wpAnyH_take (i := 6) (oi := _) (v := ?_) rfl (by kernel_rfl) (by kernel_rfl) (by kernel_rfl) (fun _ _ _ h => h) (Or.inl ⟨by rfl, ?_⟩) (by assumption) ?_
        rotate_left
        · intro w hSw; (try dsimp only at hSw); obtain ⟨e0, e1, e2, e3, e4, e5, e6, e7, e8, e9, e10, e11, e12, e13, e14⟩ := hSw.2; go_simp; first | done | with_reducible rfl
        try simp only [Act.put, List.getElem_toArray, List.getElem_cons_zero, List.getElem_cons_succ, List.setIfInBounds_toArray, List.set_cons_zero, List.set_cons_succ]
        refine wpAnyH_ready (rs := [1, 7]) (by kernel_rfl) (by simp) ?_
        refine AllReadyH.cons (o := _) rfl (fun K hK => ?_) (AllReadyH.cons (o := _) rfl (fun K hK => ?_) AllReadyH.nil)
        · go_simp
          refine hK.out _ _ hHeld (fun hHeld3 => ?_)
          clear hK K
          try simp only [Act.put, List.getElem_toArray, List.getElem_cons_zero, List.getElem_cons_succ, List.setIfInBounds_toArray, List.set_cons_zero, List.set_cons_succ]
          refine wpAnyH_ready (rs := [7]) (by kernel_rfl) (by simp) ?_
          refine AllReadyH.cons (o := _) rfl (fun K hK => ?_) AllReadyH.nil
          go_simp
          refine (HC.out).mono ?_
          rintro e w6 ⟨a', c', rfl, hAS, h6⟩
          obtain ⟨wA, hwA, va', vn', vc', w7, hpush, g6, gA, g7, f7, HS6, HSA, HS7, HS8, HEND⟩ := grow_step (t := t) hn' HS.out hx hlen hN14 hNx hbl hAS h6
          refine hK.out _ _ HS6.out (fun hHeld2 => ?_)
          clear hK K
          try simp only [Act.put, List.getElem_toArray, List.getElem_cons_zero, List.getElem_cons_succ, List.setIfInBounds_toArray, List.set_cons_zero, List.set_cons_succ]
          refine wpAnyH_ready (rs := [8]) (by kernel_rfl) (by simp) ?_
          refine AllReadyH.cons (o := _) rfl (fun K hK => ?_) AllReadyH.nil
          go_simp
          refine hK.out _ _ HSA.out (fun hHeld3 => ?_)
          clear hK K
          try simp only [Act.put, List.getElem_toArray, List.getElem_cons_zero, List.getElem_cons_succ, List.setIfInBounds_toArray, List.set_cons_zero, List.set_cons_succ]
          refine wpAnyH_ready (rs := [9]) (by kernel_rfl) (by simp) ?_
          refine AllReadyH.cons (o := _) rfl (fun K hK => ?_) AllReadyH.nil
          rw [if_pos (by rfl)]
          refine oper_append_eq _ _ 42 rfl _ _ rfl rfl hpush ?_
          refine hK.out _ _ HS7.out (fun hHeld4 => ?_)
          clear hK K
          try simp only [Act.put, List.getElem_toArray, List.getElem_cons_zero, List.getElem_cons_succ, List.setIfInBounds_toArray, List.set_cons_zero, List.set_cons_succ]
          refine wpAnyH_take (i := 10) (oi := _) (v := ?_) rfl (by kernel_rfl) (by kernel_rfl) (by kernel_rfl) (fun _ _ _ h => h) (Or.inl ⟨by rfl, ?_⟩) (by assumption) ?_
          rotate_left
          · intro w hSw; go_simp; first | done | with_reducible rfl
          try simp only [Act.put, List.getElem_toArray, List.getElem_cons_zero, List.getElem_cons_succ, List.setIfInBounds_toArray, List.set_cons_zero, List.set_cons_succ]
          refine wpAnyH_ready (rs := [11]) (by kernel_rfl) (by simp) ?_
          refine AllReadyH.cons (o := _) rfl (fun K hK => ?_) AllReadyH.nil
          go_simp
          refine hK.out _ _ HS8.out (fun hHeld5 => ?_)
          clear hK K
          refine wpAnyH_done (by kernel_rfl) ?_ _
          go_wp2_with fail
          go_roundw
          case rel => exact ⟨i + 1, va', vn', vc', by omega, by go_num, HEND⟩
          case measure => simp [intOf]; omega
        · go_simp
          refine (HC.out).mono ?_
          rintro e w6 ⟨a', c', rfl, hAS, h6⟩
          obtain ⟨wA, hwA, va', vn', vc', w7, hpush, g6, gA, g7, f7, HS6, HSA, HS7, HS8, HEND⟩ := grow_step (t := t) hn' HS.out hx hlen hN14 hNx hbl hAS h6
          refine hK.out _ _ HS6.out (fun hHeld2 => ?_)
          clear hK K
          try simp only [Act.put, List.getElem_toArray, List.getElem_cons_zero, List.getElem_cons_succ, List.setIfInBounds_toArray, List.set_cons_zero, List.set_cons_succ]
          refine wpAnyH_ready (rs := [1, 8]) (by kernel_rfl) (by simp) ?_
          refine AllReadyH.cons (o := _) rfl (fun K hK => ?_) (AllReadyH.cons (o := _) rfl (fun K hK => ?_) AllReadyH.nil)
          · go_simp
            refine hK.out _ _ HS6.out (fun hHeld3 => ?_)
            clear hK K
            try simp only [Act.put, List.getElem_toArray, List.getElem_cons_zero, List.getElem_cons_succ, List.setIfInBounds_toArray, List.set_cons_zero, List.set_cons_succ]
            refine wpAnyH_ready (rs := [8]) (by kernel_rfl) (by simp) ?_
            refine AllReadyH.cons (o := _) rfl (fun K hK => ?_) AllReadyH.nil
            go_simp
            refine hK.out _ _ HSA.out (fun hHeld3 => ?_)
            clear hK K
            try simp only [Act.put, List.getElem_toArray, List.getElem_cons_zero, List.getElem_cons_succ, List.setIfInBounds_toArray, List.set_cons_zero, List.set_cons_succ]
            refine wpAnyH_ready (rs := [9]) (by kernel_rfl) (by simp) ?_
            refine AllReadyH.cons (o := _) rfl (fun K hK => ?_) AllReadyH.nil
            rw [if_pos (by rfl)]
            refine oper_append_eq _ _ 42 rfl _ _ rfl rfl hpush ?_
            refine hK.out _ _ HS7.out (fun hHeld4 => ?_)
            clear hK K
            try simp only [Act.put, List.getElem_toArray, List.getElem_cons_zero, List.getElem_cons_succ, List.setIfInBounds_toArray, List.set_cons_zero, List.set_cons_succ]
            refine wpAnyH_take (i := 10) (oi := _) (v := ?_) rfl (by kernel_rfl) (by kernel_rfl) (by kernel_rfl) (fun _ _ _ h => h) (Or.inl ⟨by rfl, ?_⟩) (by assumption) ?_
            rotate_left
            · intro w hSw; go_simp; first | done | with_reducible rfl
            try simp only [Act.put, List.getElem_toArray, List.getElem_cons_zero, List.getElem_cons_succ, List.setIfInBounds_toArray, List.set_cons_zero, List.set_cons_succ]
            refine wpAnyH_ready (rs := [11]) (by kernel_rfl) (by simp) ?_
            refine AllReadyH.cons (o := _) rfl (fun K hK => ?_) AllReadyH.nil
            go_simp
            refine hK.out _ _ HS8.out (fun hHeld5 => ?_)
            clear hK K
            refine wpAnyH_done (by kernel_rfl) ?_ _
            go_wp2_with fail
            go_roundw
            case rel => exact ⟨i + 1, va', vn', vc', by omega, by go_num, HEND⟩
            case measure => simp [intOf]; omega
          · go_simp
            refine hK.out _ _ HSA.out (fun hHeld3 => ?_)
            clear hK K
            try simp only [Act.put, List.getElem_toArray, List.getElem_cons_zero, List.getElem_cons_succ, List.setIfInBounds_toArray, List.set_cons_zero, List.set_cons_succ]
            refine wpAnyH_ready (rs := [1]) (by kernel_rfl) (by simp) ?_
            refine AllReadyH.cons (o := _) rfl (fun K hK => ?_) AllReadyH.nil
            go_simp
            refine hK.out _ _ HSA.out (fun hHeld3 => ?_)
            clear hK K
            try simp only [Act.put, List.getElem_toArray, List.getElem_cons_zero, List.getElem_cons_succ, List.setIfInBounds_toArray, List.set_cons_zero, List.set_cons_succ]
            refine wpAnyH_ready (rs := [9]) (by kernel_rfl) (by simp) ?_
            refine AllReadyH.cons (o := _) rfl (fun K hK => ?_) AllReadyH.nil
            rw [if_pos (by rfl)]
            refine oper_append_eq _ _ 42 rfl _ _ rfl rfl hpush ?_
            refine hK.out _ _ HS7.out (fun hHeld4 => ?_)
            clear hK K
            try simp only [Act.put, List.getElem_toArray, List.getElem_cons_zero, List.getElem_cons_succ, List.setIfInBounds_toArray, List.set_cons_zero, List.set_cons_succ]
            refine wpAnyH_take (i := 10) (oi := _) (v := ?_) rfl (by kernel_rfl) (by kernel_rfl) (by kernel_rfl) (fun _ _ _ h => h) (Or.inl ⟨by rfl, ?_⟩) (by assumption) ?_
            rotate_left
            · intro w hSw; go_simp; first | done | with_reducible rfl
            try simp only [Act.put, List.getElem_toArray, List.getElem_cons_zero, List.getElem_cons_succ, List.setIfInBounds_toArray, List.set_cons_zero, List.set_cons_succ]
            refine wpAnyH_ready (rs := [11]) (by kernel_rfl) (by simp) ?_
            refine AllReadyH.cons (o := _) rfl (fun K hK => ?_) AllReadyH.nil
            go_simp
            refine hK.out _ _ HS8.out (fun hHeld5 => ?_)
            clear hK K
            refine wpAnyH_done (by kernel_rfl) ?_ _
            go_wp2_with fail
            go_roundw
            case rel => exact ⟨i + 1, va', vn', vc', by omega, by go_num, HEND⟩
            case measure => simp [intOf]; omega
      · obtain rfl : i = t.args.length := by omega
        obtain ⟨c0, c1, c2, c3, c4, c5, c6, c7, c8, c9, c10, c11, c12, c13, c14⟩ := HS.out.box
        try simp only [Nat.zero_add] at c0 c1 c2 c3 c4 c5 c6 c7 c8 c9 c10 c11 c12 c13 c14
        have hres := (HS.out.keep (w.heap.size + 1) (by omega) (by omega)).trans HRZ.out
        obtain ⟨e1, e2, e3, _⟩ := grow_end (w' := wr) HS.out (fun _ _ _ => rfl)
        subst e1
        obtain ⟨g0, g1, g2, g3, g4, g5, g6, g7, g8, g9, g10, g11, g12, g13, g14⟩ := row_frozen (w := wr) hres
        obtain ⟨v0, v1, v2, v3, v4, v5, v6, v7, v8, v9, v10, v11, v12, v13, v14, r0, r1, r2, r3, r4, r5, r6, r7, r8, r9, r10, r11, r12, r13, r14⟩ := row_there (w := wr) hres rfl
        go_wp2_with fail
        (try simp only [Exit.inBlock, Exit.then])
        have hF := fill15 hres rfl (.int .i64 t.kind) (.int .i64 t.op) (.float .f64 t.x) (.string t.s) (.bool t.b) (.int .i64 t.f) (.int .i64 t.ref.a.1) (.int .i64 t.ref.a.2) (.bool t.ref.cf) (.bool t.ref.rf) (.int .i64 t.to.a.1) (.int .i64 t.to.a.2) (.bool t.to.cf) (.bool t.to.rf) (.slice va t.args.length vc)
        refine bodyPost_ret (results_cell_row rfl _ _ (w.heap.size + 1) _ _ _ _ rfl hF.1 Tryz.underlying44 rfl (by kernel_rfl)) rfl ?_
        have hsz := HS.out.lo
        have hend := (grow_end HS.out (fun b hb hlt => hF.2.block b (by simpa using hlt) (fun e => by cases e; omega))).2.2.2 vc (Or.inl rfl)
        refine ⟨va, vc, ?_, ?_, HS.out.xt.grownB hF.2 (fun m hm => by cases hm; omega)⟩
        · rfl
        · rw [List.map_id'] at hend; exact hend.keep (fun b hb _ => by omega) (fun _ _ _ => rfl)
end
end Go.Proofs.YtideclfpbpjebaaGreatDoor
