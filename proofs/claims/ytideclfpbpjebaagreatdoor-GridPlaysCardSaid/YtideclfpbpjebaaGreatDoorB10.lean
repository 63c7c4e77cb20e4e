import Derived.Test.YtideclfpbpjebaaGreatDoorB4
import Derived.Test.YtideclfpbpjebaaGreatDoorB5
import Derived.Deep.RegionHeld3
namespace Go.Proofs.YtideclfpbpjebaaGreatDoor
section
open Go.RowKit Go.Sort

/-! ### formula.Copy -/
theorem oper_append_eq {P : Program} {w : World} {o : Oper} {a : Act} {K : Act → World → Prop} {Q : Exit → Act → World → Prop} (s x : Operand) (t : TypeId)
    (ho : o.op = .call { callee := .builtin .append, args := #[s, x], argTypes := #[t, t] }) (v u : Value) (hs : a.eval s = v) (hx : a.eval x = u) {v' : Value} {w' : World} (hr : (Builtin.append_ #[t, t] o.type #[v, u]).run P w = .ok v' w')
    (h : K (a.put o.dst v') w') : Oper.wp P o a w K Q := by
  unfold Oper.wp execOp
  simp only [ho, resolve, invoke, builtin, Sem.run_bind, Sem.run_pure, Result.andThen_ok, List.map_toArray, List.map_cons, List.map_nil, hs, hx, hr]
  exact h
def CopyIs (n : Nat) : Prop := ∀ (t : NodeT) (a : Option Addr) (cap : Nat) (w : World), smallT t → ArgsIn w n (.slice a t.args.length cap) t.args →
    Calls Tryz.prog 65 #[nodeV t a t.args.length cap] w fun e w' => ∃ a', e = .returned (copyV t a' t.args.length t.args.length) ∧ ArgsS (fun b => w.heap.size ≤ b) w' n (.slice a' t.args.length t.args.length) (copyL t.args) ∧ Xt w w'
theorem copy_push2 {w wr wB w6 : World} {n n' i : Nat} {t2 x : NodeT} {l : List NodeT} {va xa a' : Option Addr} {vn vc xc : Nat} (hn : n = n' + 1) (h : CopySt w n t2 l wr i va vn vc) (hx : l[i]? = some x) (hl : l.length ≤ 1099511627744) (hB : Xt wr wB.drew) (hNB : NodeAt wB wr.heap.size 0 x xa x.args.length xc)
    (hAS : ArgsS (fun b => wB.drew.heap.size ≤ b) w6 n' (.slice a' x.args.length x.args.length) (copyL x.args)) (h6 : Xt wB.drew w6) :
    ∃ wA, w6.alloc (.cells #[.int .i64 x.kind, .int .i64 x.op, .float .f64 (oneX x.x), .string x.s, .bool x.b, .int .i64 x.f, .int .i64 x.ref.a.1, .int .i64 x.ref.a.2, .bool x.ref.cf, .bool x.ref.rf, .int .i64 x.to.a.1, .int .i64 x.to.a.2, .bool x.to.cf, .bool x.to.rf, .slice a' x.args.length x.args.length] 44) = wA ∧
    ∃ va' vn' vc' w7, (Builtin.append_ #[42, 42] 42 #[.slice va vn vc, .slice (some ⟨w6.heap.size, 0, none⟩) 1 1]).run Tryz.prog wA = .ok (.slice va' vn' vc') w7 ∧ Hid (Xt w (w7.setCell ⟨w.heap.size, 14, none⟩ (.slice va' vn' vc'))) ∧ w6.cell? ⟨w.heap.size, 14, none⟩ = some (.slice va vn vc) ∧ wA.cell? ⟨w.heap.size, 14, none⟩ = some (.slice va vn vc) ∧ w7.cell? ⟨w.heap.size, 14, none⟩ = some (.slice va vn vc) ∧ w7.frozen? ⟨w.heap.size, 14, none⟩ = false ∧
      Hid (NodeAt w6 wr.heap.size 0 x xa x.args.length xc) ∧ Hid (NodeAt wA wr.heap.size 0 x xa x.args.length xc) ∧ Hid (NodeAt w7 wr.heap.size 0 x xa x.args.length xc) ∧ Hid (NodeAt (w7.setCell ⟨w.heap.size, 14, none⟩ (.slice va' vn' vc')) wr.heap.size 0 x xa x.args.length xc) ∧
      Hid (CopySt w n t2 l (w7.setCell ⟨w.heap.size, 14, none⟩ (.slice va' vn' vc')) (i + 1) va' vn' vc') := by
  refine ⟨_, rfl, ?_⟩
  have hwBs : wr.heap.size ≤ wB.drew.heap.size := hB.sz
  obtain ⟨va', vn', vc', w7, q1, _, q3, _, q5, ⟨q6, q7, q8⟩, q9, q10, q11⟩ := copy_push hn h hx hl (hB.trans h6) (hAS.keep (fun b hb _ => Nat.le_trans hwBs hb) (fun _ _ _ _ => rfl)) _ rfl
  have n6 : NodeAt w6 wr.heap.size 0 x xa x.args.length xc := (hNB.xt (Xt.refl wB).drew).xt h6
  have nA := n6.xt ((Xt.refl w6).alloc (.cells #[.int .i64 x.kind, .int .i64 x.op, .float .f64 (oneX x.x), .string x.s, .bool x.b, .int .i64 x.f, .int .i64 x.ref.a.1, .int .i64 x.ref.a.2, .bool x.ref.cf, .bool x.ref.rf, .int .i64 x.to.a.1, .int .i64 x.to.a.2, .bool x.to.cf, .bool x.to.rf, .slice a' x.args.length x.args.length] 44))
  have hbl := World.block_lt_of_cell? _ _ nA.c0
  exact ⟨va', vn', vc', w7, q1, q5, q6, q7, q8, q9, n6, nA, nA.keep (fun o => (q10 _ o (Nat.le_refl _) hbl).1), nA.keep (fun o => (q10 _ o (Nat.le_refl _) hbl).2), q11⟩
set_option maxRecDepth 100000 in
set_option maxHeartbeats 4000000 in
theorem fcopy_any : ∀ n, CopyIs n := by
  intro n
  induction n using Nat.strongRecOn with
  | ind n ih =>
    intro t a cap w hsm hin
    have IH := Lib.hid ih
    have HSM := Lib.hid hsm
    have HIN := Lib.hid hin
    obtain ⟨_, _, he, q1, q2⟩ := hin.shape
    cases he
    obtain ⟨w0, hw0, hg0, hs0, hN⟩ := boxN w t a t.args.length cap 44
    obtain ⟨c0, c1, c2, c3, c4, c5, c6, c7, c8, c9, c10, c11, c12, c13, c14⟩ := hN
    simp only [Nat.zero_add] at c0 c1 c2 c3 c4 c5 c6 c7 c8 c9 c10 c11 c12 c13 c14
    have f2 : w0.frozen? ⟨w.heap.size, 2, none⟩ = false := by rw [← hw0]; simp
    have f14 : w0.frozen? ⟨w.heap.size, 14, none⟩ = false := by rw [← hw0]; simp
    have HG0 := Lib.hid hg0
    have H1 := Lib.hid (One_any t.x)
    generalize hox : oneX t.x = ox at H1
    have HOX := Lib.hid hox
    clear hg0 hox hin ih hsm
    go_enter Tryz.func65, Tryz.ntmps65
    go_wp2_with (refine (H1.out _).mono ?_; rintro e w' ⟨rfl, rfl⟩)
    have HST : Hid (CopySt w n (.mk t.kind t.op ox t.s t.b t.f t.ref t.to t.args) t.args _ 0 none 0 0) := copy_start n ox t.args ⟨c0, c1, c2, c3, c4, c5, c6, c7, c8, c9, c10, c11, c12, c13, c14⟩ hs0 f14 HG0.out
    have hsz : ((w0.setCell ⟨w.heap.size, 2, none⟩ (.float .f64 ox)).setCell ⟨w.heap.size, 14, none⟩ (.slice none 0 0)).heap.size = w.heap.size + 1 := by simp [hs0]
    revert HST
    generalize hwS : World.alloc _ _ = wS
    intro HST
    clear hwS hsz hw0 hs0 c0 c1 c2 c3 c4 c5 c6 c7 c8 c9 c10 c11 c12 c13 c14 f2 f14 HG0
    go_loopw [15] (fun s15 wr => ∃ (i : Nat) (va : Option Addr) (vn vc : Nat), i ≤ t.args.length ∧ s15 = .int .i64 i ∧ Hid (CopySt w n (.mk t.kind t.op ox t.s t.b t.f t.ref t.to t.args) t.args wr i va vn vc)) (fun s15 _ => t.args.length - (intOf s15).toNat)
    case atStart => exact ⟨0, none, 0, 0, Nat.zero_le _, rfl, HST⟩
    case round =>
      clear HST
      obtain ⟨i, va, vn, vc, hi, rfl, HS⟩ := hrel
      by_cases hlt : i < t.args.length
      · obtain ⟨x, hx⟩ : ∃ x, t.args[i]? = some x := ⟨t.args[i], by simp [hlt]⟩
        obtain ⟨n', b, off, xa, xc, hn', rfl, hN, hA⟩ := HIN.out.at hx
        have hNr := hN.xt HS.out.xt
        obtain ⟨d0, d1, d2, d3, d4, d5, d6, d7, d8, d9, d10, d11, d12, d13, d14⟩ := hNr
        have hki : (i : Int) < (t.args.length : Int) := by omega
        go_wp2_with fail
        obtain ⟨wB, hwB, hgB, hsB, hNB⟩ := boxN wr x xa x.args.length xc 44
        rw [hwB]
        have hsmx : smallT x := smallL_at (smallT_args HSM.out).2 hx
        have hlen : t.args.length ≤ 1099511627744 := (smallT_args HSM.out).1
        have hwBd : Xt wr wB.drew := hgB.xt.drew
        have hNBd : NodeAt wB.drew wr.heap.size 0 x xa x.args.length xc := hNB.xt (Xt.refl wB).drew
        have HC : Hid (Calls Tryz.prog 65 #[nodeV x xa x.args.length xc] wB.drew fun e w' => ∃ a', e = .returned (copyV x a' x.args.length x.args.length) ∧ ArgsS (fun b => wB.drew.heap.size ≤ b) w' n' (.slice a' x.args.length x.args.length) (copyL x.args) ∧ Xt wB.drew w') := Lib.hid (IH.out n' (by omega) x xa xc wB.drew hsmx (hA.xt (HS.out.xt.trans hwBd)))
        have g5 : wB.drew.cell? ⟨w.heap.size, 14, none⟩ = some (.slice va vn vc) := (HS.out.box.xt hwBd).c14
        clear d0 d1 d2 d3 d4 d5 d6 d7 d8 d9 d10 d11 d12 d13 d14 hsB hgB hN hA hwB
        -- REGION 7
        refine wp_region_held_drew (S := fun w' => NodeAt w' wr.heap.size 0 x xa x.args.length xc) (by kernel_rfl) hNBd (fun hHeld => ?_)
        refine wpAnyH_take (i := 0) (oi := _) (v := ?_) rfl (by kernel_rfl) (by kernel_rfl) (by kernel_rfl) (fun _ _ _ h => h) (Or.inl ⟨by rfl, ?_⟩) (by assumption) ?_
        rotate_left
        · intro w hSw; go_simp; first | done | with_reducible rfl
        try simp only [Act.put, List.getElem_toArray, List.getElem_cons_zero, List.setIfInBounds_toArray, List.set_cons_zero, List.set_cons_succ]
        refine wpAnyH_take (i := 2) (oi := _) (v := ?_) rfl (by kernel_rfl) (by kernel_rfl) (by kernel_rfl) (fun _ _ _ h => h) (Or.inl ⟨by rfl, ?_⟩) (by assumption) ?_
        rotate_left
        · intro w hSw; (try dsimp only at hSw); obtain ⟨e0, e1, e2, e3, e4, e5, e6, e7, e8, e9, e10, e11, e12, e13, e14⟩ := hSw; simp only [Nat.zero_add] at e0 e1 e2 e3 e4 e5 e6 e7 e8 e9 e10 e11 e12 e13 e14; go_simp; first | done | with_reducible rfl
        try simp only [Act.put, List.getElem_toArray, List.getElem_cons_zero, List.getElem_cons_succ, List.setIfInBounds_toArray, List.set_cons_zero, List.set_cons_succ]
        refine wpAnyH_ready (rs := [1, 3]) (by kernel_rfl) (by simp) ?_
        refine AllReadyH.cons (o := _) rfl (fun K hK => ?_) (AllReadyH.cons (o := _) rfl (fun K hK => ?_) AllReadyH.nil)
        · go_simp
          refine hK.out _ _ hHeld (fun hHeld3 => ?_)
          clear hK K
          try simp only [Act.put, List.getElem_toArray, List.getElem_cons_zero, List.getElem_cons_succ, List.setIfInBounds_toArray, List.set_cons_zero, List.set_cons_succ]
          refine wpAnyH_ready (rs := [3]) (by kernel_rfl) (by simp) ?_
          refine AllReadyH.cons (o := _) rfl (fun K hK => ?_) AllReadyH.nil
          go_simp
          refine (HC.out).mono ?_
          rintro e w6 ⟨a', rfl, hAS, h6⟩
          obtain ⟨wA, hwA, va', vn', vc', w7, hpush, hx8, g6, gA, g7, f7, HS6, HSA, HS7, HS8, HEND⟩ := copy_push2 hn' HS.out hx hlen hwBd hNB hAS h6
          refine hK.out _ _ HS6.out (fun hHeld2 => ?_)
          clear hK K
          try simp only [Act.put, List.getElem_toArray, List.getElem_cons_zero, List.getElem_cons_succ, List.setIfInBounds_toArray, List.set_cons_zero, List.set_cons_succ]
          refine wpAnyH_ready (rs := [4]) (by kernel_rfl) (by simp) ?_
          refine AllReadyH.cons (o := _) rfl (fun K hK => ?_) AllReadyH.nil
          go_simp
          refine hK.out _ _ HSA.out (fun hHeld3 => ?_)
          clear hK K
          try simp only [Act.put, List.getElem_toArray, List.getElem_cons_zero, List.getElem_cons_succ, List.setIfInBounds_toArray, List.set_cons_zero, List.set_cons_succ]
          refine wpAnyH_ready (rs := [5]) (by kernel_rfl) (by simp) ?_
          refine AllReadyH.cons (o := _) rfl (fun K hK => ?_) AllReadyH.nil
          rw [if_pos (by rfl)]
          refine oper_append_eq _ _ 42 rfl _ _ rfl rfl hpush ?_
          refine hK.out _ _ HS7.out (fun hHeld4 => ?_)
          clear hK K
          try simp only [Act.put, List.getElem_toArray, List.getElem_cons_zero, List.getElem_cons_succ, List.setIfInBounds_toArray, List.set_cons_zero, List.set_cons_succ]
          refine wpAnyH_take (i := 6) (oi := _) (v := ?_) rfl (by kernel_rfl) (by kernel_rfl) (by kernel_rfl) (fun _ _ _ h => h) (Or.inl ⟨by rfl, ?_⟩) (by assumption) ?_
          rotate_left
          · intro w hSw; go_simp; first | done | with_reducible rfl
          try simp only [Act.put, List.getElem_toArray, List.getElem_cons_zero, List.getElem_cons_succ, List.setIfInBounds_toArray, List.set_cons_zero, List.set_cons_succ]
          refine wpAnyH_ready (rs := [7]) (by kernel_rfl) (by simp) ?_
          refine AllReadyH.cons (o := _) rfl (fun K hK => ?_) AllReadyH.nil
          go_simp
          refine hK.out _ _ HS8.out (fun hHeld5 => ?_)
          clear hK K
          refine wpAnyH_done (by kernel_rfl) ?_ _
          go_wp2_with fail
          go_roundw
          case rel => exact ⟨i + 1, va', vn', vc', by omega, by go_num, HEND⟩
          case measure => simp [intOf]; omega
        · go_simp
          refine (HC.out).mono ?_
          rintro e w6 ⟨a', rfl, hAS, h6⟩
          obtain ⟨wA, hwA, va', vn', vc', w7, hpush, hx8, g6, gA, g7, f7, HS6, HSA, HS7, HS8, HEND⟩ := copy_push2 hn' HS.out hx hlen hwBd hNB hAS h6
          refine hK.out _ _ HS6.out (fun hHeld2 => ?_)
          clear hK K
          try simp only [Act.put, List.getElem_toArray, List.getElem_cons_zero, List.getElem_cons_succ, List.setIfInBounds_toArray, List.set_cons_zero, List.set_cons_succ]
          refine wpAnyH_ready (rs := [1, 4]) (by kernel_rfl) (by simp) ?_
          refine AllReadyH.cons (o := _) rfl (fun K hK => ?_) (AllReadyH.cons (o := _) rfl (fun K hK => ?_) AllReadyH.nil)
          · go_simp
            refine hK.out _ _ HS6.out (fun hHeld3 => ?_)
            clear hK K
            try simp only [Act.put, List.getElem_toArray, List.getElem_cons_zero, List.getElem_cons_succ, List.setIfInBounds_toArray, List.set_cons_zero, List.set_cons_succ]
            refine wpAnyH_ready (rs := [4]) (by kernel_rfl) (by simp) ?_
            refine AllReadyH.cons (o := _) rfl (fun K hK => ?_) AllReadyH.nil
            go_simp
            refine hK.out _ _ HSA.out (fun hHeld3 => ?_)
            clear hK K
            try simp only [Act.put, List.getElem_toArray, List.getElem_cons_zero, List.getElem_cons_succ, List.setIfInBounds_toArray, List.set_cons_zero, List.set_cons_succ]
            refine wpAnyH_ready (rs := [5]) (by kernel_rfl) (by simp) ?_
            refine AllReadyH.cons (o := _) rfl (fun K hK => ?_) AllReadyH.nil
            rw [if_pos (by rfl)]
            refine oper_append_eq _ _ 42 rfl _ _ rfl rfl hpush ?_
            refine hK.out _ _ HS7.out (fun hHeld4 => ?_)
            clear hK K
            try simp only [Act.put, List.getElem_toArray, List.getElem_cons_zero, List.getElem_cons_succ, List.setIfInBounds_toArray, List.set_cons_zero, List.set_cons_succ]
            refine wpAnyH_take (i := 6) (oi := _) (v := ?_) rfl (by kernel_rfl) (by kernel_rfl) (by kernel_rfl) (fun _ _ _ h => h) (Or.inl ⟨by rfl, ?_⟩) (by assumption) ?_
            rotate_left
            · intro w hSw; go_simp; first | done | with_reducible rfl
            try simp only [Act.put, List.getElem_toArray, List.getElem_cons_zero, List.getElem_cons_succ, List.setIfInBounds_toArray, List.set_cons_zero, List.set_cons_succ]
            refine wpAnyH_ready (rs := [7]) (by kernel_rfl) (by simp) ?_
            refine AllReadyH.cons (o := _) rfl (fun K hK => ?_) AllReadyH.nil
            go_simp
            refine hK.out _ _ HS8.out (fun hHeld5 => ?_)
            clear hK K
            refine wpAnyH_done (by kernel_rfl) ?_ _
            go_wp2_with fail
            go_roundw
            case rel => exact ⟨i + 1, va', vn', vc', by omega, by go_num, HEND⟩
            case measure => simp [intOf]; omega
          · go_simp
            refine hK.out _ _ HSA.out (fun hHeld3 => ?_)
            clear hK K
            try simp only [Act.put, List.getElem_toArray, List.getElem_cons_zero, List.getElem_cons_succ, List.setIfInBounds_toArray, List.set_cons_zero, List.set_cons_succ]
            refine wpAnyH_ready (rs := [1]) (by kernel_rfl) (by simp) ?_
            refine AllReadyH.cons (o := _) rfl (fun K hK => ?_) AllReadyH.nil
            go_simp
            refine hK.out _ _ HSA.out (fun hHeld3 => ?_)
            clear hK K
            try simp only [Act.put, List.getElem_toArray, List.getElem_cons_zero, List.getElem_cons_succ, List.setIfInBounds_toArray, List.set_cons_zero, List.set_cons_succ]
            refine wpAnyH_ready (rs := [5]) (by kernel_rfl) (by simp) ?_
            refine AllReadyH.cons (o := _) rfl (fun K hK => ?_) AllReadyH.nil
            rw [if_pos (by rfl)]
            refine oper_append_eq _ _ 42 rfl _ _ rfl rfl hpush ?_
            refine hK.out _ _ HS7.out (fun hHeld4 => ?_)
            clear hK K
            try simp only [Act.put, List.getElem_toArray, List.getElem_cons_zero, List.getElem_cons_succ, List.setIfInBounds_toArray, List.set_cons_zero, List.set_cons_succ]
            refine wpAnyH_take (i := 6) (oi := _) (v := ?_) rfl (by kernel_rfl) (by kernel_rfl) (by kernel_rfl) (fun _ _ _ h => h) (Or.inl ⟨by rfl, ?_⟩) (by assumption) ?_
            rotate_left
            · intro w hSw; go_simp; first | done | with_reducible rfl
            try simp only [Act.put, List.getElem_toArray, List.getElem_cons_zero, List.getElem_cons_succ, List.setIfInBounds_toArray, List.set_cons_zero, List.set_cons_succ]
            refine wpAnyH_ready (rs := [7]) (by kernel_rfl) (by simp) ?_
            refine AllReadyH.cons (o := _) rfl (fun K hK => ?_) AllReadyH.nil
            go_simp
            refine hK.out _ _ HS8.out (fun hHeld5 => ?_)
            clear hK K
            refine wpAnyH_done (by kernel_rfl) ?_ _
            go_wp2_with fail
            go_roundw
            case rel => exact ⟨i + 1, va', vn', vc', by omega, by go_num, HEND⟩
            case measure => simp [intOf]; omega
      · obtain rfl : i = t.args.length := by omega
        obtain ⟨c0, c1, c2, c3, c4, c5, c6, c7, c8, c9, c10, c11, c12, c13, c14⟩ := HS.out.box.facts0
        have f14 := HS.out.f14
        obtain ⟨e1, e2, e3, _⟩ := copy_end (w' := wr) HS.out (fun _ _ _ _ => rfl)
        subst e1
        have HCL := Lib.hid (fun w => ClipNode_any va t.args.length vc w e2 e3)
        obtain ⟨cs, hres, hcs⟩ := HS.out.res
        obtain ⟨g0, g1, g2, g3, g4, g5, g6, g7, g8, g9, g10, g11, g12, g13, g14⟩ := row_frozen (w := wr) hres
        obtain ⟨v0, v1, v2, v3, v4, v5, v6, v7, v8, v9, v10, v11, v12, v13, v14, r0, r1, r2, r3, r4, r5, r6, r7, r8, r9, r10, r11, r12, r13, r14⟩ := row_there (w := wr) hres hcs
        go_wp2_with (refine (HCL.out _).mono ?_; rintro e w' ⟨rfl, rfl⟩)
        (try simp only [Exit.inBlock, Exit.then])
        have hwr8 := (Below.heap_setCell wr ⟨w.heap.size, 14, none⟩ (.slice va t.args.length t.args.length) (w.heap.size + 1) (by simp)).trans hres
        have hF := fill15 hwr8 hcs (.int .i64 t.kind) (.int .i64 t.op) (.float .f64 ox) (.string t.s) (.bool t.b) (.int .i64 t.f) (.int .i64 t.ref.a.1) (.int .i64 t.ref.a.2) (.bool t.ref.cf) (.bool t.ref.rf) (.int .i64 t.to.a.1) (.int .i64 t.to.a.2) (.bool t.to.cf) (.bool t.to.rf) (.slice va t.args.length t.args.length)
        refine bodyPost_ret (results_cell_row rfl _ _ (w.heap.size + 1) _ _ _ _ rfl hF.1 Tryz.underlying44 rfl (by kernel_rfl)) rfl ?_
        have hB2 : w.heap.size + 1 < wr.heap.size := (Array.getElem?_eq_some_iff.1 hres).1
        refine ⟨va, by rw [← HOX.out], (copy_end HS.out (fun b o hb hlt => ?_)).2.2.2, ?_⟩
        · exact World.cell?_of_block (w := wr) (a := ⟨b, o, none⟩) ((hF.2.block b (by simpa using hlt) (fun e => by cases e; omega)).trans (Below.heap_setCell _ _ _ _ (by show b ≠ w.heap.size; omega)))
        · exact (HS.out.xt.grownB (setCell_grown _ _ _ _) (fun m hm => by cases hm; exact Nat.le_refl _)).grownB hF.2 (fun m hm => by cases hm; omega)

def CopyIsO (n : Nat) : Prop := ∀ (t : NodeT) (a : Option Addr) (cap : Nat) (w : World), smallT t → ArgsIn w n (.slice a t.args.length cap) t.args →
    Calls Tryz.prog 65 #[nodeV t a t.args.length cap] w fun e w' => ∃ a', e = .returned (copyV t a' t.args.length t.args.length) ∧ OwnIn (fun b => w.heap.size ≤ b) w' n (.slice a' t.args.length t.args.length) (copyL t.args) ∧ Xt w w'
theorem copy_push2O {w ws wr wB w6 : World} {M n n' i : Nat} {t2 x : NodeT} {l : List NodeT} {va xa a' : Option Addr} {vn vc xc : Nat} (hn : n = n' + 1) (h : GSt w ws w.heap.size M copyT n t2 l wr i va vn vc) (hx : l[i]? = some x) (hl : l.length ≤ 1099511627744) (hB : Xt wr wB.drew) (hNB : NodeAt wB wr.heap.size 0 x xa x.args.length xc)
    (hAS : OwnIn (fun b => wB.drew.heap.size ≤ b) w6 n' (.slice a' x.args.length x.args.length) (copyL x.args)) (h6 : Xt wB.drew w6) :
    ∃ wA, w6.alloc (.cells #[.int .i64 x.kind, .int .i64 x.op, .float .f64 (oneX x.x), .string x.s, .bool x.b, .int .i64 x.f, .int .i64 x.ref.a.1, .int .i64 x.ref.a.2, .bool x.ref.cf, .bool x.ref.rf, .int .i64 x.to.a.1, .int .i64 x.to.a.2, .bool x.to.cf, .bool x.to.rf, .slice a' x.args.length x.args.length] 44) = wA ∧
    ∃ va' vn' vc' w7, (Builtin.append_ #[42, 42] 42 #[.slice va vn vc, .slice (some ⟨w6.heap.size, 0, none⟩) 1 1]).run Tryz.prog wA = .ok (.slice va' vn' vc') w7 ∧ Hid (Xt w (w7.setCell ⟨w.heap.size, 14, none⟩ (.slice va' vn' vc'))) ∧ w6.cell? ⟨w.heap.size, 14, none⟩ = some (.slice va vn vc) ∧ wA.cell? ⟨w.heap.size, 14, none⟩ = some (.slice va vn vc) ∧ w7.cell? ⟨w.heap.size, 14, none⟩ = some (.slice va vn vc) ∧ w7.frozen? ⟨w.heap.size, 14, none⟩ = false ∧
      Hid (NodeAt w6 wr.heap.size 0 x xa x.args.length xc) ∧ Hid (NodeAt wA wr.heap.size 0 x xa x.args.length xc) ∧ Hid (NodeAt w7 wr.heap.size 0 x xa x.args.length xc) ∧ Hid (NodeAt (w7.setCell ⟨w.heap.size, 14, none⟩ (.slice va' vn' vc')) wr.heap.size 0 x xa x.args.length xc) ∧
      Hid (GSt w ws w.heap.size M copyT n t2 l (w7.setCell ⟨w.heap.size, 14, none⟩ (.slice va' vn' vc')) (i + 1) va' vn' vc') := by
  refine ⟨_, rfl, ?_⟩
  have hwBs : wr.heap.size ≤ wB.drew.heap.size := hB.sz
  have hA0 : OwnIn (fun b => wr.heap.size ≤ b) w6 n' (.slice a' (copyT x).args.length x.args.length) (copyT x).args := by
    have := hAS.keep (S' := fun b => wr.heap.size ≤ b) (fun b hb _ => Nat.le_trans hwBs hb) (fun _ _ _ => rfl)
    obtain ⟨k, o, x, s, bb, f, r, q, l⟩ := x
    simpa only [copyT, NodeT.args, copyL_map, List.length_map] using this
  obtain ⟨va', vn', vc', w7, q1, ⟨q6, q7, q8⟩, q9, _, q10, q11⟩ := grow_push (g := copyT) hn h hx hl (hB.trans h6) hA0 (w6.alloc (.cells #[.int .i64 x.kind, .int .i64 x.op, .float .f64 (oneX x.x), .string x.s, .bool x.b, .int .i64 x.f, .int .i64 x.ref.a.1, .int .i64 x.ref.a.2, .bool x.ref.cf, .bool x.ref.rf, .int .i64 x.to.a.1, .int .i64 x.to.a.2, .bool x.to.cf, .bool x.to.rf, .slice a' x.args.length x.args.length] 44)) (by
    obtain ⟨k, o, x, s, bb, f, r, q, l⟩ := x
    simp only [copyT, NodeT.kind, NodeT.op, NodeT.x, NodeT.s, NodeT.b, NodeT.f, NodeT.ref, NodeT.to, NodeT.args, copyL_map, List.length_map])
  have q5 := q11.xt
  have n6 : NodeAt w6 wr.heap.size 0 x xa x.args.length xc := (hNB.xt (Xt.refl wB).drew).xt h6
  have nA := n6.xt ((Xt.refl w6).alloc (.cells #[.int .i64 x.kind, .int .i64 x.op, .float .f64 (oneX x.x), .string x.s, .bool x.b, .int .i64 x.f, .int .i64 x.ref.a.1, .int .i64 x.ref.a.2, .bool x.ref.cf, .bool x.ref.rf, .int .i64 x.to.a.1, .int .i64 x.to.a.2, .bool x.to.cf, .bool x.to.rf, .slice a' x.args.length x.args.length] 44))
  have hbl := World.block_lt_of_cell? _ _ nA.c0
  exact ⟨va', vn', vc', w7, q1, q5, q6, q7, q8, q9, n6, nA, nA.keep (fun o => World.cell?_of_block (a := ⟨wr.heap.size, o, none⟩) (q10 _ (Nat.le_refl _) hbl).1), nA.keep (fun o => World.cell?_of_block (a := ⟨wr.heap.size, o, none⟩) (q10 _ (Nat.le_refl _) hbl).2), q11⟩
set_option maxRecDepth 100000 in
set_option maxHeartbeats 4000000 in
theorem fcopyO_any : ∀ n, CopyIsO n := by
  intro n
  induction n using Nat.strongRecOn with
  | ind n ih =>
    intro t a cap w hsm hin
    have IH := Lib.hid ih
    have HSM := Lib.hid hsm
    have HIN := Lib.hid hin
    obtain ⟨_, _, he, q1, q2⟩ := hin.shape
    cases he
    obtain ⟨w0, hw0, hg0, hs0, hN⟩ := boxN w t a t.args.length cap 44
    obtain ⟨c0, c1, c2, c3, c4, c5, c6, c7, c8, c9, c10, c11, c12, c13, c14⟩ := hN
    simp only [Nat.zero_add] at c0 c1 c2 c3 c4 c5 c6 c7 c8 c9 c10 c11 c12 c13 c14
    have f2 : w0.frozen? ⟨w.heap.size, 2, none⟩ = false := by rw [← hw0]; simp
    have f14 : w0.frozen? ⟨w.heap.size, 14, none⟩ = false := by rw [← hw0]; simp
    have HG0 := Lib.hid hg0
    have H1 := Lib.hid (One_any t.x)
    generalize hox : oneX t.x = ox at H1
    have HOX := Lib.hid hox
    clear hg0 hox hin ih hsm
    go_enter Tryz.func65, Tryz.ntmps65
    go_wp2_with (refine (H1.out _).mono ?_; rintro e w' ⟨rfl, rfl⟩)
    have HST : Hid (CopyStR w n (.mk t.kind t.op ox t.s t.b t.f t.ref t.to t.args) t.args _ 0 none 0 0) := copy_startR n ox t.args ⟨c0, c1, c2, c3, c4, c5, c6, c7, c8, c9, c10, c11, c12, c13, c14⟩ hs0 f14 HG0.out
    have hsz : ((w0.setCell ⟨w.heap.size, 2, none⟩ (.float .f64 ox)).setCell ⟨w.heap.size, 14, none⟩ (.slice none 0 0)).heap.size = w.heap.size + 1 := by simp [hs0]
    revert HST
    generalize hwS : World.alloc _ _ = wS
    intro HST
    have HRES := Lib.hid HST.out.res
    have HST : Hid (GSt w wS w.heap.size wS.heap.size copyT n (.mk t.kind t.op ox t.s t.b t.f t.ref t.to t.args) t.args wS 0 none 0 0) := grow_start copyT n t.args (Nat.le_refl _) (World.block_lt_of_cell? _ _ HST.out.box.c0) HST.out.box HST.out.f14 HST.out.xt
    clear hwS hsz hw0 hs0 c0 c1 c2 c3 c4 c5 c6 c7 c8 c9 c10 c11 c12 c13 c14 f2 f14 HG0
    go_loopw [15] (fun s15 wr => ∃ (i : Nat) (va : Option Addr) (vn vc : Nat), i ≤ t.args.length ∧ s15 = .int .i64 i ∧ Hid (GSt w wS w.heap.size wS.heap.size copyT n (.mk t.kind t.op ox t.s t.b t.f t.ref t.to t.args) t.args wr i va vn vc)) (fun s15 _ => t.args.length - (intOf s15).toNat)
    case atStart => exact ⟨0, none, 0, 0, Nat.zero_le _, rfl, HST⟩
    case round =>
      clear HST
      obtain ⟨i, va, vn, vc, hi, rfl, HS⟩ := hrel
      by_cases hlt : i < t.args.length
      · obtain ⟨x, hx⟩ : ∃ x, t.args[i]? = some x := ⟨t.args[i], by simp [hlt]⟩
        obtain ⟨n', b, off, xa, xc, hn', rfl, hN, hA⟩ := HIN.out.at hx
        have hNr := hN.xt HS.out.xt
        obtain ⟨d0, d1, d2, d3, d4, d5, d6, d7, d8, d9, d10, d11, d12, d13, d14⟩ := hNr
        have hki : (i : Int) < (t.args.length : Int) := by omega
        go_wp2_with fail
        obtain ⟨wB, hwB, hgB, hsB, hNB⟩ := boxN wr x xa x.args.length xc 44
        rw [hwB]
        have hsmx : smallT x := smallL_at (smallT_args HSM.out).2 hx
        have hlen : t.args.length ≤ 1099511627744 := (smallT_args HSM.out).1
        have hwBd : Xt wr wB.drew := hgB.xt.drew
        have hNBd : NodeAt wB.drew wr.heap.size 0 x xa x.args.length xc := hNB.xt (Xt.refl wB).drew
        have HC : Hid (Calls Tryz.prog 65 #[nodeV x xa x.args.length xc] wB.drew fun e w' => ∃ a', e = .returned (copyV x a' x.args.length x.args.length) ∧ OwnIn (fun b => wB.drew.heap.size ≤ b) w' n' (.slice a' x.args.length x.args.length) (copyL x.args) ∧ Xt wB.drew w') := Lib.hid (IH.out n' (by omega) x xa xc wB.drew hsmx (hA.xt (HS.out.xt.trans hwBd)))
        have g5 : wB.drew.cell? ⟨w.heap.size, 14, none⟩ = some (.slice va vn vc) := (HS.out.box.xt hwBd).c14
        clear d0 d1 d2 d3 d4 d5 d6 d7 d8 d9 d10 d11 d12 d13 d14 hsB hgB hN hA hwB
        -- REGION 7
        refine wp_region_held_drew (S := fun w' => NodeAt w' wr.heap.size 0 x xa x.args.length xc) (by kernel_rfl) hNBd (fun hHeld => ?_)
        refine wpAnyH_take (i := 0) (oi := _) (v := ?_) rfl (by kernel_rfl) (by kernel_rfl) (by kernel_rfl) (fun _ _ _ h => h) (Or.inl ⟨by rfl, ?_⟩) (by assumption) ?_
        rotate_left
        · intro w hSw; go_simp; first | done | with_reducible rfl
        try simp only [Act.put, List.getElem_toArray, List.getElem_cons_zero, List.setIfInBounds_toArray, List.set_cons_zero, List.set_cons_succ]
        refine wpAnyH_take (i := 2) (oi := _) (v := ?_) rfl (by kernel_rfl) (by kernel_rfl) (by kernel_rfl) (fun _ _ _ h => h) (Or.inl ⟨by rfl, ?_⟩) (by assumption) ?_
        rotate_left
        · intro w hSw; (try dsimp only at hSw); obtain ⟨e0, e1, e2, e3, e4, e5, e6, e7, e8, e9, e10, e11, e12, e13, e14⟩ := hSw; simp only [Nat.zero_add] at e0 e1 e2 e3 e4 e5 e6 e7 e8 e9 e10 e11 e12 e13 e14; go_simp; first | done | with_reducible rfl
        try simp only [Act.put, List.getElem_toArray, List.getElem_cons_zero, List.getElem_cons_succ, List.setIfInBounds_toArray, List.set_cons_zero, List.set_cons_succ]
        refine wpAnyH_ready (rs := [1, 3]) (by kernel_rfl) (by simp) ?_
        refine AllReadyH.cons (o := _) rfl (fun K hK => ?_) (AllReadyH.cons (o := _) rfl (fun K hK => ?_) AllReadyH.nil)
        · go_simp
          refine hK.out _ _ hHeld (fun hHeld3 => ?_)
          clear hK K
          try simp only [Act.put, List.getElem_toArray, List.getElem_cons_zero, List.getElem_cons_succ, List.setIfInBounds_toArray, List.set_cons_zero, List.set_cons_succ]
          refine wpAnyH_ready (rs := [3]) (by kernel_rfl) (by simp) ?_
          refine AllReadyH.cons (o := _) rfl (fun K hK => ?_) AllReadyH.nil
          go_simp
          refine (HC.out).mono ?_
          rintro e w6 ⟨a', rfl, hAS, h6⟩
          obtain ⟨wA, hwA, va', vn', vc', w7, hpush, hx8, g6, gA, g7, f7, HS6, HSA, HS7, HS8, HEND⟩ := copy_push2O hn' HS.out hx hlen hwBd hNB hAS h6
          refine hK.out _ _ HS6.out (fun hHeld2 => ?_)
          clear hK K
          try simp only [Act.put, List.getElem_toArray, List.getElem_cons_zero, List.getElem_cons_succ, List.setIfInBounds_toArray, List.set_cons_zero, List.set_cons_succ]
          refine wpAnyH_ready (rs := [4]) (by kernel_rfl) (by simp) ?_
          refine AllReadyH.cons (o := _) rfl (fun K hK => ?_) AllReadyH.nil
          go_simp
          refine hK.out _ _ HSA.out (fun hHeld3 => ?_)
          clear hK K
          try simp only [Act.put, List.getElem_toArray, List.getElem_cons_zero, List.getElem_cons_succ, List.setIfInBounds_toArray, List.set_cons_zero, List.set_cons_succ]
          refine wpAnyH_ready (rs := [5]) (by kernel_rfl) (by simp) ?_
          refine AllReadyH.cons (o := _) rfl (fun K hK => ?_) AllReadyH.nil
          rw [if_pos (by rfl)]
          refine oper_append_eq _ _ 42 rfl _ _ rfl rfl hpush ?_
          refine hK.out _ _ HS7.out (fun hHeld4 => ?_)
          clear hK K
          try simp only [Act.put, List.getElem_toArray, List.getElem_cons_zero, List.getElem_cons_succ, List.setIfInBounds_toArray, List.set_cons_zero, List.set_cons_succ]
          refine wpAnyH_take (i := 6) (oi := _) (v := ?_) rfl (by kernel_rfl) (by kernel_rfl) (by kernel_rfl) (fun _ _ _ h => h) (Or.inl ⟨by rfl, ?_⟩) (by assumption) ?_
          rotate_left
          · intro w hSw; go_simp; first | done | with_reducible rfl
          try simp only [Act.put, List.getElem_toArray, List.getElem_cons_zero, List.getElem_cons_succ, List.setIfInBounds_toArray, List.set_cons_zero, List.set_cons_succ]
          refine wpAnyH_ready (rs := [7]) (by kernel_rfl) (by simp) ?_
          refine AllReadyH.cons (o := _) rfl (fun K hK => ?_) AllReadyH.nil
          go_simp
          refine hK.out _ _ HS8.out (fun hHeld5 => ?_)
          clear hK K
          refine wpAnyH_done (by kernel_rfl) ?_ _
          go_wp2_with fail
          go_roundw
          case rel => exact ⟨i + 1, va', vn', vc', by omega, by go_num, HEND⟩
          case measure => simp [intOf]; omega
        · go_simp
          refine (HC.out).mono ?_
          rintro e w6 ⟨a', rfl, hAS, h6⟩
          obtain ⟨wA, hwA, va', vn', vc', w7, hpush, hx8, g6, gA, g7, f7, HS6, HSA, HS7, HS8, HEND⟩ := copy_push2O hn' HS.out hx hlen hwBd hNB hAS h6
          refine hK.out _ _ HS6.out (fun hHeld2 => ?_)
          clear hK K
          try simp only [Act.put, List.getElem_toArray, List.getElem_cons_zero, List.getElem_cons_succ, List.setIfInBounds_toArray, List.set_cons_zero, List.set_cons_succ]
          refine wpAnyH_ready (rs := [1, 4]) (by kernel_rfl) (by simp) ?_
          refine AllReadyH.cons (o := _) rfl (fun K hK => ?_) (AllReadyH.cons (o := _) rfl (fun K hK => ?_) AllReadyH.nil)
          · go_simp
            refine hK.out _ _ HS6.out (fun hHeld3 => ?_)
            clear hK K
            try simp only [Act.put, List.getElem_toArray, List.getElem_cons_zero, List.getElem_cons_succ, List.setIfInBounds_toArray, List.set_cons_zero, List.set_cons_succ]
            refine wpAnyH_ready (rs := [4]) (by kernel_rfl) (by simp) ?_
            refine AllReadyH.cons (o := _) rfl (fun K hK => ?_) AllReadyH.nil
            go_simp
            refine hK.out _ _ HSA.out (fun hHeld3 => ?_)
            clear hK K
            try simp only [Act.put, List.getElem_toArray, List.getElem_cons_zero, List.getElem_cons_succ, List.setIfInBounds_toArray, List.set_cons_zero, List.set_cons_succ]
            refine wpAnyH_ready (rs := [5]) (by kernel_rfl) (by simp) ?_
            refine AllReadyH.cons (o := _) rfl (fun K hK => ?_) AllReadyH.nil
            rw [if_pos (by rfl)]
            refine oper_append_eq _ _ 42 rfl _ _ rfl rfl hpush ?_
            refine hK.out _ _ HS7.out (fun hHeld4 => ?_)
            clear hK K
            try simp only [Act.put, List.getElem_toArray, List.getElem_cons_zero, List.getElem_cons_succ, List.setIfInBounds_toArray, List.set_cons_zero, List.set_cons_succ]
            refine wpAnyH_take (i := 6) (oi := _) (v := ?_) rfl (by kernel_rfl) (by kernel_rfl) (by kernel_rfl) (fun _ _ _ h => h) (Or.inl ⟨by rfl, ?_⟩) (by assumption) ?_
            rotate_left
            · intro w hSw; go_simp; first | done | with_reducible rfl
            try simp only [Act.put, List.getElem_toArray, List.getElem_cons_zero, List.getElem_cons_succ, List.setIfInBounds_toArray, List.set_cons_zero, List.set_cons_succ]
            refine wpAnyH_ready (rs := [7]) (by kernel_rfl) (by simp) ?_
            refine AllReadyH.cons (o := _) rfl (fun K hK => ?_) AllReadyH.nil
            go_simp
            refine hK.out _ _ HS8.out (fun hHeld5 => ?_)
            clear hK K
            refine wpAnyH_done (by kernel_rfl) ?_ _
            go_wp2_with fail
            go_roundw
            case rel => exact ⟨i + 1, va', vn', vc', by omega, by go_num, HEND⟩
            case measure => simp [intOf]; omega
          · go_simp
            refine hK.out _ _ HSA.out (fun hHeld3 => ?_)
            clear hK K
            try simp only [Act.put, List.getElem_toArray, List.getElem_cons_zero, List.getElem_cons_succ, List.setIfInBounds_toArray, List.set_cons_zero, List.set_cons_succ]
            refine wpAnyH_ready (rs := [1]) (by kernel_rfl) (by simp) ?_
            refine AllReadyH.cons (o := _) rfl (fun K hK => ?_) AllReadyH.nil
            go_simp
            refine hK.out _ _ HSA.out (fun hHeld3 => ?_)
            clear hK K
            try simp only [Act.put, List.getElem_toArray, List.getElem_cons_zero, List.getElem_cons_succ, List.setIfInBounds_toArray, List.set_cons_zero, List.set_cons_succ]
            refine wpAnyH_ready (rs := [5]) (by kernel_rfl) (by simp) ?_
            refine AllReadyH.cons (o := _) rfl (fun K hK => ?_) AllReadyH.nil
            rw [if_pos (by rfl)]
            refine oper_append_eq _ _ 42 rfl _ _ rfl rfl hpush ?_
            refine hK.out _ _ HS7.out (fun hHeld4 => ?_)
            clear hK K
            try simp only [Act.put, List.getElem_toArray, List.getElem_cons_zero, List.getElem_cons_succ, List.setIfInBounds_toArray, List.set_cons_zero, List.set_cons_succ]
            refine wpAnyH_take (i := 6) (oi := _) (v := ?_) rfl (by kernel_rfl) (by kernel_rfl) (by kernel_rfl) (fun _ _ _ h => h) (Or.inl ⟨by rfl, ?_⟩) (by assumption) ?_
            rotate_left
            · intro w hSw; go_simp; first | done | with_reducible rfl
            try simp only [Act.put, List.getElem_toArray, List.getElem_cons_zero, List.getElem_cons_succ, List.setIfInBounds_toArray, List.set_cons_zero, List.set_cons_succ]
            refine wpAnyH_ready (rs := [7]) (by kernel_rfl) (by simp) ?_
            refine AllReadyH.cons (o := _) rfl (fun K hK => ?_) AllReadyH.nil
            go_simp
            refine hK.out _ _ HS8.out (fun hHeld5 => ?_)
            clear hK K
            refine wpAnyH_done (by kernel_rfl) ?_ _
            go_wp2_with fail
            go_roundw
            case rel => exact ⟨i + 1, va', vn', vc', by omega, by go_num, HEND⟩
            case measure => simp [intOf]; omega
      · obtain rfl : i = t.args.length := by omega
        obtain ⟨c0, c1, c2, c3, c4, c5, c6, c7, c8, c9, c10, c11, c12, c13, c14⟩ := HS.out.box.facts0
        have f14 := HS.out.f14
        obtain ⟨e1, e2, e3, _⟩ := grow_end (w' := wr) HS.out (fun _ _ _ => rfl)
        subst e1
        have HCL := Lib.hid (fun w => ClipNode_any va t.args.length vc w e2 e3)
        obtain ⟨cs, hresS, hcs⟩ := HRES.out
        have hMM : w.heap.size + 1 < wS.heap.size := (Array.getElem?_eq_some_iff.1 hresS).1
        have hres := (HS.out.keep (w.heap.size + 1) hMM (by omega)).trans hresS
        obtain ⟨g0, g1, g2, g3, g4, g5, g6, g7, g8, g9, g10, g11, g12, g13, g14⟩ := row_frozen (w := wr) hres
        obtain ⟨v0, v1, v2, v3, v4, v5, v6, v7, v8, v9, v10, v11, v12, v13, v14, r0, r1, r2, r3, r4, r5, r6, r7, r8, r9, r10, r11, r12, r13, r14⟩ := row_there (w := wr) hres hcs
        go_wp2_with (refine (HCL.out _).mono ?_; rintro e w' ⟨rfl, rfl⟩)
        (try simp only [Exit.inBlock, Exit.then])
        have hwr8 := (Below.heap_setCell wr ⟨w.heap.size, 14, none⟩ (.slice va t.args.length t.args.length) (w.heap.size + 1) (by simp)).trans hres
        have hF := fill15 hwr8 hcs (.int .i64 t.kind) (.int .i64 t.op) (.float .f64 ox) (.string t.s) (.bool t.b) (.int .i64 t.f) (.int .i64 t.ref.a.1) (.int .i64 t.ref.a.2) (.bool t.ref.cf) (.bool t.ref.rf) (.int .i64 t.to.a.1) (.int .i64 t.to.a.2) (.bool t.to.cf) (.bool t.to.rf) (.slice va t.args.length t.args.length)
        refine bodyPost_ret (results_cell_row rfl _ _ (w.heap.size + 1) _ _ _ _ rfl hF.1 Tryz.underlying44 rfl (by kernel_rfl)) rfl ?_
        have hB2 : w.heap.size + 1 < wr.heap.size := (Array.getElem?_eq_some_iff.1 hres).1
        refine ⟨va, by rw [← HOX.out], ?_, (HS.out.xt.grownB (setCell_grown _ _ _ _) (fun m hm => by cases hm; exact Nat.le_refl _)).grownB hF.2 (fun m hm => by cases hm; omega)⟩
        rw [copyL_map]
        refine ((grow_end HS.out (fun b hb hlt => ?_)).2.2.2 t.args.length (Or.inr rfl)).keep (fun b hb _ => by omega) (fun _ _ _ => rfl)
        exact (hF.2.block b (by simpa using hlt) (fun e => by cases e; omega)).trans (Below.heap_setCell _ _ _ _ (by show b ≠ w.heap.size; omega))
end
end Go.Proofs.YtideclfpbpjebaaGreatDoor
