import Derived.Test.YtdoeejhdenifpaaGreatDoorB12
set_option maxRecDepth 100000
set_option maxHeartbeats 16000000
namespace Go.Proofs.YtdoeejhdenifpaaGreatDoor
section
open Go.RowKit Go.Sort
def CopyIsS (n : Nat) : Prop := ∀ (t : NodeT) (a : Option Addr) (cap : Nat) (w : World), yQE t -> ArgsIn w n (.slice a t.args.length cap) t.args ->
    Calls Tryz.prog 76 #[jSk t a t.args.length cap] w fun e w' => ∃ a', e = .returned (zWe t a' t.args.length t.args.length) /\ SepIn (fun b => w.heap.size <= b /\ b < w'.heap.size) w' n (.slice a' t.args.length t.args.length) (jEz t.args) /\ Xt w w'
theorem y7d {w ws wr wB w6 : World} {M n n' i : Nat} {t2 x : NodeT} {l : List NodeT} {va xa a' : Option Addr} {vn vc xc : Nat} (hn : n = n' + 1) (h : SSt w ws w.heap.size M copyT n t2 l wr i va vn vc) (hx : l[i]? = some x) (hl : l.length <= 1099511627744) (hB : Xt wr wB.drew) (hNB : NodeAt wB wr.heap.size 0 x xa x.args.length xc)
    (hAS : SepIn (fun b => wB.drew.heap.size <= b /\ b < w6.heap.size) w6 n' (.slice a' x.args.length x.args.length) (jEz x.args)) (h6 : Xt wB.drew w6) :
    ∃ wA, w6.alloc (.cells (rM x.kind x.op (oneX x.x) x.s x.b x.f x.ref.a.1 x.ref.a.2 x.ref.cf x.ref.rf x.to.a.1 x.to.a.2 x.to.cf x.to.rf (.slice a' x.args.length x.args.length)) 49) = wA /\
    ∃ va' vn' vc' w7, (Builtin.append_ #[47, 47] 47 #[.slice va vn vc, .slice (some ⟨w6.heap.size, 0, none⟩) 1 1]).run Tryz.prog wA = .ok (.slice va' vn' vc') w7 /\ Hid (Xt w (w7.setCell ⟨w.heap.size, 14, none⟩ (.slice va' vn' vc'))) /\ c_ w6 w.heap.size 14 (.slice va vn vc) /\ c_ wA w.heap.size 14 (.slice va vn vc) /\ c_ w7 w.heap.size 14 (.slice va vn vc) /\ w7.frozen? ⟨w.heap.size, 14, none⟩ = false /\
     Hid (NodeAt w6 wr.heap.size 0 x xa x.args.length xc) /\ Hid (NodeAt wA wr.heap.size 0 x xa x.args.length xc) /\ Hid (NodeAt w7 wr.heap.size 0 x xa x.args.length xc) /\ Hid (NodeAt (w7.setCell ⟨w.heap.size, 14, none⟩ (.slice va' vn' vc')) wr.heap.size 0 x xa x.args.length xc) /\
     Hid (SSt w ws w.heap.size M copyT n t2 l (w7.setCell ⟨w.heap.size, 14, none⟩ (.slice va' vn' vc')) (i + 1) va' vn' vc') := by
 refine ⟨_, rfl, ?_⟩;have hwBs : wr.heap.size <= wB.drew.heap.size := hB.sz;have hA0 : SepIn (fun b => wr.heap.size <= b /\ b < w6.heap.size) w6 n' (.slice a' (copyT x).args.length x.args.length) (copyT x).args := by
  have := hAS.weak (S' := fun b => wr.heap.size <= b /\ b < w6.heap.size) (fun b hb _ => ⟨Nat.le_trans hwBs hb.1, hb.2⟩);obtain ⟨k, o, x, s, bb, f, r, q, l⟩ := x;simpa only [copyT, NodeT.args, j3y, List.length_map] using this
 obtain ⟨va', vn', vc', w7, q1, ⟨q6, q7, q8⟩, q9, _, q10, q11⟩ := zCn (g := copyT) hn h hx hl (hB.trans h6) hA0 (w6.alloc (.cells (rM x.kind x.op (oneX x.x) x.s x.b x.f x.ref.a.1 x.ref.a.2 x.ref.cf x.ref.rf x.to.a.1 x.to.a.2 x.to.cf x.to.rf (.slice a' x.args.length x.args.length)) 49)) (by
  obtain ⟨k, o, x, s, bb, f, r, q, l⟩ := x;simp only [copyT, NodeT.kind, NodeT.op, NodeT.x, NodeT.s, NodeT.b, NodeT.f, NodeT.ref, NodeT.to, NodeT.args, j3y, List.length_map])
 have q5 := q11.xt;have n6 : NodeAt w6 wr.heap.size 0 x xa x.args.length xc := (hNB.xt (Xt.refl wB).drew).xt h6;have nA := n6.xt ((Xt.refl w6).alloc (.cells (rM x.kind x.op (oneX x.x) x.s x.b x.f x.ref.a.1 x.ref.a.2 x.ref.cf x.ref.rf x.to.a.1 x.to.a.2 x.to.cf x.to.rf (.slice a' x.args.length x.args.length)) 49));have hbl := b_ _ _ nA.c0
 exact ⟨va', vn', vc', w7, q1, q5, q6, q7, q8, q9, n6, nA, nA.keep (fun o => d_ (a := ⟨wr.heap.size, o, none⟩) (q10 _ (Nat.le_refl _) hbl).1), nA.keep (fun o => d_ (a := ⟨wr.heap.size, o, none⟩) (q10 _ (Nat.le_refl _) hbl).2), q11⟩
theorem yiJ : ∀ n, CopyIsS n := by
 intro n
 induction n using Nat.strongRecOn with
 | ind n ih =>
  intro t a cap w hsm hin;have IH := h_ ih;have HSM := h_ hsm;have HIN := h_ hin;obtain ⟨_, _, he, q1, q2⟩ := hin.shape;cases he;obtain ⟨w0, hw0, hg0, hs0, hN⟩ := boxN w t a t.args.length cap 49;obtain ⟨c0, c1, c2, c3, c4, c5, c6, c7, c8, c9, c10, c11, c12, c13, c14⟩ := hN;simp only [Nat.zero_add] at c0 c1 c2 c3 c4 c5 c6 c7 c8 c9 c10 c11 c12 c13 c14;have f2 : w0.frozen? ⟨w.heap.size, 2, none⟩ = false := (by rw [<- hw0]; simp);have f14 : w0.frozen? ⟨w.heap.size, 14, none⟩ = false := (by rw [<- hw0]; simp);have HG0 := h_ hg0;have H1 := h_ (yCW t.x);generalize hox : oneX t.x = ox at H1;have HOX := h_ hox;clear hg0 hox hin ih hsm;go_enter Tryz.func76, Tryz.ntmps76
  go_wp2_with (refine (H1.out _).mono ?_; rintro e w' ⟨rfl, rfl⟩)
  have HST : Hid (CopyStR w n (.mk t.kind t.op ox t.s t.b t.f t.ref t.to t.args) t.args _ 0 none 0 0) := jKa n ox t.args ⟨c0, c1, c2, c3, c4, c5, c6, c7, c8, c9, c10, c11, c12, c13, c14⟩ hs0 f14 HG0.out;have hsz : ((w0.setCell ⟨w.heap.size, 2, none⟩ (.float .f64 ox)).setCell ⟨w.heap.size, 14, none⟩ (.slice none 0 0)).heap.size = w.heap.size + 1 := by simp [hs0]
  revert HST
  generalize hwS : World.alloc _ _ = wS;intro HST;have HRES := h_ HST.out.res;have HST : Hid (SSt w wS w.heap.size wS.heap.size copyT n (.mk t.kind t.op ox t.s t.b t.f t.ref t.to t.args) t.args wS 0 none 0 0) := yWw copyT n t.args (Nat.le_refl _) (b_ _ _ HST.out.box.c0) HST.out.box HST.out.f14 HST.out.xt;clear hwS hsz hw0 hs0 c0 c1 c2 c3 c4 c5 c6 c7 c8 c9 c10 c11 c12 c13 c14 f2 f14 HG0
  go_loopw [15] (fun s15 wr => ∃ (i : Nat) (va : Option Addr) (vn vc : Nat), i <= t.args.length /\ s15 = .int .i64 i /\ Hid (SSt w wS w.heap.size wS.heap.size copyT n (.mk t.kind t.op ox t.s t.b t.f t.ref t.to t.args) t.args wr i va vn vc)) (fun s15 _ => t.args.length - (intOf s15).toNat)
  case atStart => exact ⟨0, none, 0, 0, Nat.zero_le _, rfl, HST⟩
  case round =>
   clear HST;obtain ⟨i, va, vn, vc, hi, rfl, HS⟩ := hrel;by_cases hlt : i < t.args.length
   . obtain ⟨x, hx⟩ : ∃ x, t.args[i]? = some x := ⟨t.args[i], by simp [hlt]⟩;obtain ⟨n', b, off, xa, xc, hn', rfl, hN, hA⟩ := HIN.out.at hx;have hNr := hN.xt HS.out.xt;obtain ⟨d0, d1, d2, d3, d4, d5, d6, d7, d8, d9, d10, d11, d12, d13, d14⟩ := hNr;have hki : (i : Int) < (t.args.length : Int) := (by omega);go_wp2_with fail;obtain ⟨wB, hwB, hgB, hsB, hNB⟩ := boxN wr x xa x.args.length xc 49;rw [hwB];have hsmx : yQE x := z8y (zB1 HSM.out).2 hx;have hlen : t.args.length <= 1099511627744 := (zB1 HSM.out).1;have hwBd : Xt wr wB.drew := hgB.xt.drew;have hNBd : NodeAt wB.drew wr.heap.size 0 x xa x.args.length xc := hNB.xt (Xt.refl wB).drew
     have HC : Hid (Calls Tryz.prog 76 #[jSk x xa x.args.length xc] wB.drew fun e w' => ∃ a', e = .returned (zWe x a' x.args.length x.args.length) /\ SepIn (fun b => wB.drew.heap.size <= b /\ b < w'.heap.size) w' n' (.slice a' x.args.length x.args.length) (jEz x.args) /\ Xt wB.drew w') := h_ (IH.out n' (by omega) x xa xc wB.drew hsmx (hA.xt (HS.out.xt.trans hwBd)));have g5 : wB.drew.cell? ⟨w.heap.size, 14, none⟩ = some (.slice va vn vc) := (HS.out.box.xt hwBd).c14;clear d0 d1 d2 d3 d4 d5 d6 d7 d8 d9 d10 d11 d12 d13 d14 hsB hgB hN hA hwB
     -- REGION 7
     refine wp_region_held_drew (S := fun w' => NodeAt w' wr.heap.size 0 x xa x.args.length xc) (by kernel_rfl) hNBd (fun hHeld => ?_);refine tkN 0 ?_;refine tkH 2 ?_ ?_ ?_;rotate_left
     . intro w hSw; (try dsimp only at hSw); obtain ⟨e0, e1, e2, e3, e4, e5, e6, e7, e8, e9, e10, e11, e12, e13, e14⟩ := hSw; simp only [Nat.zero_add] at e0 e1 e2 e3 e4 e5 e6 e7 e8 e9 e10 e11 e12 e13 e14; go_simp; first | done | with_reducible rfl
     try simp only [Act.put, nm]
     iterate 3
      all_goals first
       | refine rd2 1 3 (fun K hK => ?_) fun K hK => ?_
       | refine rd2 1 4 (fun K hK => ?_) fun K hK => ?_
       | refine rdH 3 fun K hK => ?_
       | refine rdH 4 fun K hK => ?_
       | refine rdH 1 fun K hK => ?_
      all_goals
       go_simp
       first
        | refine ko hK (by assumption) fun hHeld3 => ?_
        | refine (HC.out).mono ?_
          rintro e w6 ⟨a', rfl, hAS, h6⟩;obtain ⟨wA, hwA, va', vn', vc', w7, hpush, hx8, g6, gA, g7, f7, HS6, HSA, HS7, HS8, HEND⟩ := y7d hn' HS.out hx hlen hwBd hNB hAS h6;refine ko hK HS6.out fun hHeld3 => ?_
        | refine ko hK HSA.out fun hHeld3 => ?_
       clear hK K
     all_goals
      refine rdH 5 (fun K hK => ?_);rw [if_pos (by rfl)];refine zBT _ _ 47 rfl _ _ rfl rfl hpush ?_;refine ko hK HS7.out fun hHeld4 => ?_;clear hK K;refine tkN 6 ?_;refine rdH 7 (fun K hK => ?_);go_simp;refine hK.out _ _ HS8.out (fun hHeld5 => ?_);clear hK K;refine z_ (by kernel_rfl) ?_ _;go_wp2_with fail;go_roundw
      case rel => exact ⟨i + 1, va', vn', vc', by omega, by go_num, HEND⟩
      case measure => simp [intOf]; omega
   . obtain rfl : i = t.args.length := by omega
     obtain ⟨c0, c1, c2, c3, c4, c5, c6, c7, c8, c9, c10, c11, c12, c13, c14⟩ := HS.out.box.facts0;have f14 := HS.out.f14;obtain ⟨e1, e2, e3, _⟩ := ygG (w' := wr) HS.out (fun _ _ _ => rfl);subst e1;have HCL := h_ (fun w => yO2 va t.args.length vc w e2 e3);obtain ⟨cs, hresS, hcs⟩ := HRES.out;have hMM : w.heap.size + 1 < wS.heap.size := (g_ hresS).1;have hres := (HS.out.keep (w.heap.size + 1) hMM (by omega)).trans hresS;obtain ⟨g0, g1, g2, g3, g4, g5, g6, g7, g8, g9, g10, g11, g12, g13, g14⟩ := zGA (w := wr) hres
     obtain ⟨v0, v1, v2, v3, v4, v5, v6, v7, v8, v9, v10, v11, v12, v13, v14, r0, r1, r2, r3, r4, r5, r6, r7, r8, r9, r10, r11, r12, r13, r14⟩ := y94 (w := wr) hres hcs;go_wp2_with (refine (HCL.out _).mono ?_; rintro e w' ⟨rfl, rfl⟩)
     (try simp only [Exit.inBlock, Exit.then])
     have hwr8 := (s_ wr ⟨w.heap.size, 14, none⟩ (.slice va t.args.length t.args.length) (w.heap.size + 1) (by simp)).trans hres;have hF := zc0 hwr8 hcs (.int .i64 t.kind) (.int .i64 t.op) (.float .f64 ox) (.string t.s) (.bool t.b) (.int .i64 t.f) (.int .i64 t.ref.a.1) (.int .i64 t.ref.a.2) (.bool t.ref.cf) (.bool t.ref.rf) (.int .i64 t.to.a.1) (.int .i64 t.to.a.2) (.bool t.to.cf) (.bool t.to.rf) (.slice va t.args.length t.args.length);refine p_ (t_ rfl _ _ (w.heap.size + 1) _ _ _ _ rfl hF.1 Tryz.underlying49 rfl (by kernel_rfl)) rfl ?_;have hB2 : w.heap.size + 1 < wr.heap.size := (g_ hres).1
     refine ⟨va, by rw [<- HOX.out], ?_, (HS.out.xt.grownB (yiv _ _ _ _) (fun m hm => by cases hm; exact Nat.le_refl _)).grownB hF.2 (fun m hm => by cases hm; omega)⟩;rw [j3y];have hszF := hF.2.size;have hszR : (wr.setCell ⟨w.heap.size, 14, none⟩ (.slice va t.args.length t.args.length)).heap.size = wr.heap.size := (by simp);refine ((ygG HS.out (fun b hb hlt => ?_)).2.2.2 t.args.length (Or.inr rfl)).weak (fun b hb _ => ⟨by omega, by omega⟩);exact (hF.2.block b (by simpa using hlt) (fun e => by cases e; omega)).trans (s_ _ _ _ _ (by show b ≠ w.heap.size; omega))
theorem jvz {w ws wr w6 : World} {M n n' i b off cap xc : Nat} {g : NodeT -> NodeT} {t t2 x : NodeT} {l : List NodeT} {va a' xa : Option Addr} {vn vc c' : Nat} (hn : n = n' + 1) (h : GSt w ws (w.heap.size + 1 + 1) M g n t2 l wr i va vn vc) (hx : l[i]? = some x) (hl : l.length <= 1099511627744)
    (hN14 : wr.cell? ⟨w.heap.size, 14, none⟩ = some (.slice (some ⟨b, off, none⟩) t.args.length cap)) (hNx : NodeAt wr b (off + i * 15) x xa x.args.length xc) (hb : b < w.heap.size)
    (hAS : OwnIn (fun b => wr.drew.heap.size <= b) w6 n' (.slice a' (g x).args.length c') (g x).args) (h6 : Xt wr.drew w6) :
    ∃ wA, w6.alloc (.cells (rN (g x) (.slice a' (g x).args.length c')) 49) = wA /\
    ∃ va' vn' vc' w7, (Builtin.append_ #[47, 47] 47 #[.slice va vn vc, .slice (some ⟨w6.heap.size, 0, none⟩) 1 1]).run Tryz.prog wA = .ok (.slice va' vn' vc') w7 /\ c_ w6 (w.heap.size + 1 + 1) 14 (.slice va vn vc) /\ c_ wA (w.heap.size + 1 + 1) 14 (.slice va vn vc) /\ c_ w7 (w.heap.size + 1 + 1) 14 (.slice va vn vc) /\ w7.frozen? ⟨w.heap.size + 1 + 1, 14, none⟩ = false /\
     Hid (c_ w6 w.heap.size 14 (.slice (some ⟨b, off, none⟩) t.args.length cap) /\ NodeAt w6 b (off + i * 15) x xa x.args.length xc) /\ Hid (c_ wA w.heap.size 14 (.slice (some ⟨b, off, none⟩) t.args.length cap) /\ NodeAt wA b (off + i * 15) x xa x.args.length xc) /\ Hid (c_ w7 w.heap.size 14 (.slice (some ⟨b, off, none⟩) t.args.length cap) /\ NodeAt w7 b (off + i * 15) x xa x.args.length xc) /\
     Hid ((w7.setCell ⟨w.heap.size + 1 + 1, 14, none⟩ (.slice va' vn' vc')).cell? ⟨w.heap.size, 14, none⟩ = some (.slice (some ⟨b, off, none⟩) t.args.length cap) /\ NodeAt (w7.setCell ⟨w.heap.size + 1 + 1, 14, none⟩ (.slice va' vn' vc')) b (off + i * 15) x xa x.args.length xc) /\
     Hid (GSt w ws (w.heap.size + 1 + 1) M g n t2 l (w7.setCell ⟨w.heap.size + 1 + 1, 14, none⟩ (.slice va' vn' vc')) (i + 1) va' vn' vc') := by
 refine ⟨_, rfl, ?_⟩;obtain ⟨va', vn', vc', w7, q1, ⟨q6, q7, q8⟩, q9, q10, _, q11⟩ := jua hn h hx hl ((Xt.refl wr).drew.trans h6) hAS _ rfl;have hlo := h.lo;have hb2 : b < wr.heap.size := (by omega);have hn2 : w.heap.size < wr.heap.size := (by omega);obtain ⟨x6, xA, x7, x8⟩ := q10 b hb2 (Or.inr hb);obtain ⟨y6, yA, y7, y8⟩ := q10 w.heap.size hn2 (Or.inl ⟨by omega, by omega⟩);have hc : ∀ {u : World} {k o : Nat}, u.heap[k]? = wr.heap[k]? -> u.cell? ⟨k, o, none⟩ = wr.cell? ⟨k, o, none⟩ := fun {u k o} e => d_ (w := wr) (a := ⟨k, o, none⟩) e
 exact ⟨va', vn', vc', w7, q1, q6, q7, q8, q9, ⟨(hc y6).trans hN14, hNx.keep (fun o => hc x6)⟩, ⟨(hc yA).trans hN14, hNx.keep (fun o => hc xA)⟩, ⟨(hc y7).trans hN14, hNx.keep (fun o => hc x7)⟩, ⟨(hc y8).trans hN14, hNx.keep (fun o => hc x8)⟩, q11⟩
end
end Go.Proofs.YtdoeejhdenifpaaGreatDoor
