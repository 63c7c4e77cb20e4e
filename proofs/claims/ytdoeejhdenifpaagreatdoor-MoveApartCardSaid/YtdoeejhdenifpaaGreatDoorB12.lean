import Derived.Test.YtdoeejhdenifpaaGreatDoorB4
import Derived.Test.YtdoeejhdenifpaaGreatDoorB7
import Derived.Deep.RegionHeld3
import Derived.Laws.EntriesVeiled
import Derived.Deep.Cut
set_option maxRecDepth 100000
set_option maxHeartbeats 16000000
namespace Go.Proofs.YtdoeejhdenifpaaGreatDoor
section
open Go.RowKit Go.Sort
theorem zBT {P : Program} {w : World} {o : Oper} {a : Act} {K : Act -> World -> Prop} {Q : Exit -> Act -> World -> Prop} (s x : Operand) (t : TypeId)
    (ho : o.op = .call { callee := .builtin .append, args := #[s, x], argTypes := #[t, t] }) (v u : Value) (hs : a.eval s = v) (hx : a.eval x = u) {v' : Value} {w' : World} (hr : (Builtin.append_ #[t, t] o.type #[v, u]).run P w = .ok v' w')
    (h : K (a.put o.dst v') w') : Oper.wp P o a w K Q := by
 unfold Oper.wp execOp;simp only [ho, resolve, invoke, builtin, Sem.run_bind, Sem.run_pure, Result.andThen_ok, List.map_toArray, List.map_cons, List.map_nil, hs, hx, hr];exact h
def CopyIs (n : Nat) : Prop := ∀ (t : NodeT) (a : Option Addr) (cap : Nat) (w : World), yQE t -> ArgsIn w n (.slice a t.args.length cap) t.args ->
    Calls Tryz.prog 76 #[jSk t a t.args.length cap] w fun e w' => ∃ a', e = .returned (zWe t a' t.args.length t.args.length) /\ ArgsS (fun b => w.heap.size <= b) w' n (.slice a' t.args.length t.args.length) (jEz t.args) /\ Xt w w'
theorem zOE {w wr wB w6 : World} {n n' i : Nat} {t2 x : NodeT} {l : List NodeT} {va xa a' : Option Addr} {vn vc xc : Nat} (hn : n = n' + 1) (h : CopySt w n t2 l wr i va vn vc) (hx : l[i]? = some x) (hl : l.length <= 1099511627744) (hB : Xt wr wB.drew) (hNB : NodeAt wB wr.heap.size 0 x xa x.args.length xc)
    (hAS : ArgsS (fun b => wB.drew.heap.size <= b) w6 n' (.slice a' x.args.length x.args.length) (jEz x.args)) (h6 : Xt wB.drew w6) :
    ∃ wA, w6.alloc (.cells (rM x.kind x.op (oneX x.x) x.s x.b x.f x.ref.a.1 x.ref.a.2 x.ref.cf x.ref.rf x.to.a.1 x.to.a.2 x.to.cf x.to.rf (.slice a' x.args.length x.args.length)) 49) = wA /\
    ∃ va' vn' vc' w7, (Builtin.append_ #[47, 47] 47 #[.slice va vn vc, .slice (some ⟨w6.heap.size, 0, none⟩) 1 1]).run Tryz.prog wA = .ok (.slice va' vn' vc') w7 /\ Hid (Xt w (w7.setCell ⟨w.heap.size, 14, none⟩ (.slice va' vn' vc'))) /\ c_ w6 w.heap.size 14 (.slice va vn vc) /\ c_ wA w.heap.size 14 (.slice va vn vc) /\ c_ w7 w.heap.size 14 (.slice va vn vc) /\ w7.frozen? ⟨w.heap.size, 14, none⟩ = false /\
     Hid (NodeAt w6 wr.heap.size 0 x xa x.args.length xc) /\ Hid (NodeAt wA wr.heap.size 0 x xa x.args.length xc) /\ Hid (NodeAt w7 wr.heap.size 0 x xa x.args.length xc) /\ Hid (NodeAt (w7.setCell ⟨w.heap.size, 14, none⟩ (.slice va' vn' vc')) wr.heap.size 0 x xa x.args.length xc) /\
     Hid (CopySt w n t2 l (w7.setCell ⟨w.heap.size, 14, none⟩ (.slice va' vn' vc')) (i + 1) va' vn' vc') := by
 refine ⟨_, rfl, ?_⟩;have hwBs : wr.heap.size <= wB.drew.heap.size := hB.sz;obtain ⟨va', vn', vc', w7, q1, _, q3, _, q5, ⟨q6, q7, q8⟩, q9, q10, q11⟩ := zIE hn h hx hl (hB.trans h6) (hAS.keep (fun b hb _ => Nat.le_trans hwBs hb) (fun _ _ _ _ => rfl)) _ rfl;have n6 : NodeAt w6 wr.heap.size 0 x xa x.args.length xc := (hNB.xt (Xt.refl wB).drew).xt h6;have nA := n6.xt ((Xt.refl w6).alloc (.cells (rM x.kind x.op (oneX x.x) x.s x.b x.f x.ref.a.1 x.ref.a.2 x.ref.cf x.ref.rf x.to.a.1 x.to.a.2 x.to.cf x.to.rf (.slice a' x.args.length x.args.length)) 49))
 have hbl := b_ _ _ nA.c0;exact ⟨va', vn', vc', w7, q1, q5, q6, q7, q8, q9, n6, nA, nA.keep (fun o => (q10 _ o (Nat.le_refl _) hbl).1), nA.keep (fun o => (q10 _ o (Nat.le_refl _) hbl).2), q11⟩
theorem zkM : ∀ n, CopyIs n := by
 intro n
 induction n using Nat.strongRecOn with
 | ind n ih =>
  intro t a cap w hsm hin;have IH := h_ ih;have HSM := h_ hsm;have HIN := h_ hin;obtain ⟨_, _, he, q1, q2⟩ := hin.shape;cases he;obtain ⟨w0, hw0, hg0, hs0, hN⟩ := boxN w t a t.args.length cap 49;obtain ⟨c0, c1, c2, c3, c4, c5, c6, c7, c8, c9, c10, c11, c12, c13, c14⟩ := hN;simp only [Nat.zero_add] at c0 c1 c2 c3 c4 c5 c6 c7 c8 c9 c10 c11 c12 c13 c14;have f2 : w0.frozen? ⟨w.heap.size, 2, none⟩ = false := (by rw [<- hw0]; simp);have f14 : w0.frozen? ⟨w.heap.size, 14, none⟩ = false := (by rw [<- hw0]; simp);have HG0 := h_ hg0;have H1 := h_ (yCW t.x);generalize hox : oneX t.x = ox at H1;have HOX := h_ hox;clear hg0 hox hin ih hsm;go_enter Tryz.func76, Tryz.ntmps76
  go_wp2_with (refine (H1.out _).mono ?_; rintro e w' ⟨rfl, rfl⟩)
  have HST : Hid (CopySt w n (.mk t.kind t.op ox t.s t.b t.f t.ref t.to t.args) t.args _ 0 none 0 0) := zlv n ox t.args ⟨c0, c1, c2, c3, c4, c5, c6, c7, c8, c9, c10, c11, c12, c13, c14⟩ hs0 f14 HG0.out;have hsz : ((w0.setCell ⟨w.heap.size, 2, none⟩ (.float .f64 ox)).setCell ⟨w.heap.size, 14, none⟩ (.slice none 0 0)).heap.size = w.heap.size + 1 := by simp [hs0]
  revert HST
  generalize hwS : World.alloc _ _ = wS;intro HST;clear hwS hsz hw0 hs0 c0 c1 c2 c3 c4 c5 c6 c7 c8 c9 c10 c11 c12 c13 c14 f2 f14 HG0
  go_loopw [15] (fun s15 wr => ∃ (i : Nat) (va : Option Addr) (vn vc : Nat), i <= t.args.length /\ s15 = .int .i64 i /\ Hid (CopySt w n (.mk t.kind t.op ox t.s t.b t.f t.ref t.to t.args) t.args wr i va vn vc)) (fun s15 _ => t.args.length - (intOf s15).toNat)
  case atStart => exact ⟨0, none, 0, 0, Nat.zero_le _, rfl, HST⟩
  case round =>
   clear HST;obtain ⟨i, va, vn, vc, hi, rfl, HS⟩ := hrel;by_cases hlt : i < t.args.length
   . obtain ⟨x, hx⟩ : ∃ x, t.args[i]? = some x := ⟨t.args[i], by simp [hlt]⟩;obtain ⟨n', b, off, xa, xc, hn', rfl, hN, hA⟩ := HIN.out.at hx;have hNr := hN.xt HS.out.xt;obtain ⟨d0, d1, d2, d3, d4, d5, d6, d7, d8, d9, d10, d11, d12, d13, d14⟩ := hNr;have hki : (i : Int) < (t.args.length : Int) := (by omega);go_wp2_with fail;obtain ⟨wB, hwB, hgB, hsB, hNB⟩ := boxN wr x xa x.args.length xc 49;rw [hwB];have hsmx : yQE x := z8y (zB1 HSM.out).2 hx;have hlen : t.args.length <= 1099511627744 := (zB1 HSM.out).1;have hwBd : Xt wr wB.drew := hgB.xt.drew;have hNBd : NodeAt wB.drew wr.heap.size 0 x xa x.args.length xc := hNB.xt (Xt.refl wB).drew
     have HC : Hid (Calls Tryz.prog 76 #[jSk x xa x.args.length xc] wB.drew fun e w' => ∃ a', e = .returned (zWe x a' x.args.length x.args.length) /\ ArgsS (fun b => wB.drew.heap.size <= b) w' n' (.slice a' x.args.length x.args.length) (jEz x.args) /\ Xt wB.drew w') := h_ (IH.out n' (by omega) x xa xc wB.drew hsmx (hA.xt (HS.out.xt.trans hwBd)));have g5 : wB.drew.cell? ⟨w.heap.size, 14, none⟩ = some (.slice va vn vc) := (HS.out.box.xt hwBd).c14;clear d0 d1 d2 d3 d4 d5 d6 d7 d8 d9 d10 d11 d12 d13 d14 hsB hgB hN hA hwB
     -- REGION 7
     refine wp_region_held_drew (S := fun w' => NodeAt w' wr.heap.size 0 x xa x.args.length xc) (by kernel_rfl) hNBd (fun hHeld => ?_);refine tkN 0 ?_;refine tkH 2 ?_ ?_ ?_;rotate_left
     . intro w hSw; (try dsimp only at hSw); obtain ⟨e0, e1, e2, e3, e4, e5, e6, e7, e8, e9, e10, e11, e12, e13, e14⟩ := hSw; simp only [Nat.zero_add] at e0 e1 e2 e3 e4 e5 e6 e7 e8 e9 e10 e11 e12 e13 e14; go_simp; first | done | with_reducible rfl
     try simp only [Act.put, nm]
     iterate 3
      all_goals first
       | refine rd2 1 3 (fun K hK => ?_) fun K hK => ?_
       | refine rd2 1 4 (fun K hK => ?_) fun K hK => ?_
       | refine rdH 3 fun K hK => ?_
       | refine rdH 4 fun K hK => ?_
       | refine rdH 1 fun K hK => ?_
      all_goals
       go_simp
       first
        | refine ko hK (by assumption) fun hHeld3 => ?_
        | refine (HC.out).mono ?_
          rintro e w6 ⟨a', rfl, hAS, h6⟩;obtain ⟨wA, hwA, va', vn', vc', w7, hpush, hx8, g6, gA, g7, f7, HS6, HSA, HS7, HS8, HEND⟩ := zOE hn' HS.out hx hlen hwBd hNB hAS h6;refine ko hK HS6.out fun hHeld3 => ?_
        | refine ko hK HSA.out fun hHeld3 => ?_
       clear hK K
     all_goals
      refine rdH 5 (fun K hK => ?_);rw [if_pos (by rfl)];refine zBT _ _ 47 rfl _ _ rfl rfl hpush ?_;refine ko hK HS7.out fun hHeld4 => ?_;clear hK K;refine tkN 6 ?_;refine rdH 7 (fun K hK => ?_);go_simp;refine hK.out _ _ HS8.out (fun hHeld5 => ?_);clear hK K;refine z_ (by kernel_rfl) ?_ _;go_wp2_with fail;go_roundw
      case rel => exact ⟨i + 1, va', vn', vc', by omega, by go_num, HEND⟩
      case measure => simp [intOf]; omega
   . obtain rfl : i = t.args.length := by omega
     obtain ⟨c0, c1, c2, c3, c4, c5, c6, c7, c8, c9, c10, c11, c12, c13, c14⟩ := HS.out.box.facts0;have f14 := HS.out.f14;obtain ⟨e1, e2, e3, _⟩ := yz5 (w' := wr) HS.out (fun _ _ _ _ => rfl);subst e1;have HCL := h_ (fun w => yO2 va t.args.length vc w e2 e3);obtain ⟨cs, hres, hcs⟩ := HS.out.res;obtain ⟨g0, g1, g2, g3, g4, g5, g6, g7, g8, g9, g10, g11, g12, g13, g14⟩ := zGA (w := wr) hres;obtain ⟨v0, v1, v2, v3, v4, v5, v6, v7, v8, v9, v10, v11, v12, v13, v14, r0, r1, r2, r3, r4, r5, r6, r7, r8, r9, r10, r11, r12, r13, r14⟩ := y94 (w := wr) hres hcs;go_wp2_with (refine (HCL.out _).mono ?_; rintro e w' ⟨rfl, rfl⟩)
     (try simp only [Exit.inBlock, Exit.then])
     have hwr8 := (s_ wr ⟨w.heap.size, 14, none⟩ (.slice va t.args.length t.args.length) (w.heap.size + 1) (by simp)).trans hres;have hF := zc0 hwr8 hcs (.int .i64 t.kind) (.int .i64 t.op) (.float .f64 ox) (.string t.s) (.bool t.b) (.int .i64 t.f) (.int .i64 t.ref.a.1) (.int .i64 t.ref.a.2) (.bool t.ref.cf) (.bool t.ref.rf) (.int .i64 t.to.a.1) (.int .i64 t.to.a.2) (.bool t.to.cf) (.bool t.to.rf) (.slice va t.args.length t.args.length);refine p_ (t_ rfl _ _ (w.heap.size + 1) _ _ _ _ rfl hF.1 Tryz.underlying49 rfl (by kernel_rfl)) rfl ?_;have hB2 : w.heap.size + 1 < wr.heap.size := (g_ hres).1
     refine ⟨va, by rw [<- HOX.out], (yz5 HS.out (fun b o hb hlt => ?_)).2.2.2, ?_⟩
     . exact d_ (w := wr) (a := ⟨b, o, none⟩) ((hF.2.block b (by simpa using hlt) (fun e => by cases e; omega)).trans (s_ _ _ _ _ (by show b ≠ w.heap.size; omega)))
     . exact (HS.out.xt.grownB (yiv _ _ _ _) (fun m hm => by cases hm; exact Nat.le_refl _)).grownB hF.2 (fun m hm => by cases hm; omega)
structure ArT where
 a : Int
 b : Int
 c : Int
 d : Int
abbrev arT (x : ArT) : Value := .agg #[x.a, x.b, x.c, x.d]
def zi9 (cols : Bool) (l : LinT) (x : ArT) : ArT × Bool := if cols = true then (⟨(yJ8 l x.a x.c).1, x.b, (yJ8 l x.a x.c).2.1, x.d⟩, (yJ8 l x.a x.c).2.2) else (⟨x.a, (yJ8 l x.b x.d).1, x.c, (yJ8 l x.b x.d).2.1⟩, (yJ8 l x.b x.d).2.2)
def ArT.ok (x : ArT) : Prop := -4611686018427387904 <= x.a /\ -4611686018427387904 <= x.b /\ x.c <= 4611686018427387904 /\ x.d <= 4611686018427387904
theorem jr0 {w : World} {b : Nat} {u v x y : Value} {T : TypeId} (h : w.heap[b]? = some (.cells #[u, v, x, y] T (0, 0))) : (c_ w b 0 u /\ c_ w b 1 v /\ c_ w b 2 x /\ c_ w b 3 y) /\ w.frozen? ⟨b, 0, none⟩ = false /\ w.frozen? ⟨b, 1, none⟩ = false /\ w.frozen? ⟨b, 2, none⟩ = false /\ w.frozen? ⟨b, 3, none⟩ = false := by
 refine ⟨⟨?_, ?_, ?_, ?_⟩, ?_, ?_, ?_, ?_⟩ <;> simp [World.cell?, World.frozen?, h]
theorem jVX (cols : Bool) (l : LinT) (x : ArT) (hx : x.ok) (pc pl : Nat) (w : World) (h : LinAt w pc pl cols l) :
    Calls Tryz.prog 148 #[arT x, v_ pc, v_ pl] w fun e w' => e = .returned (.tuple #[arT (zi9 cols l x).1, (zi9 cols l x).2]) /\ Xt w w' := by
 obtain ⟨B, hB⟩ := e_ w.heap.size;obtain ⟨w0, hw0⟩ := e_ (w.alloc (.cells #[x.a, x.b, x.c, x.d] 26));have hs0 : w0.heap.size = B + 1 := (by rw [<- hw0, <- hB]; simp);obtain ⟨w1, hw1⟩ := e_ (w0.alloc (.cells #[.int .i64 0, .int .i64 0, .int .i64 0, .int .i64 0] 26));have hx1 : Xt w w1 := (by rw [<- hw1, <- hw0]; exact ((Xt.refl w).alloc _).alloc _);have HB : Hid (r_ w1 B #[x.a, x.b, x.c, x.d] 26) := by
  unfold Hid; rw [<- hw1]; exact (Below.heap_alloc w0 _ _ (by omega)).trans (by rw [<- hw0, <- hB]; exact (a_ w _).1)
 have HR : Hid (r_ w1 (B + 1) #[.int .i64 0, .int .i64 0, .int .i64 0, .int .i64 0] 26) := by
  unfold Hid; rw [<- hw1, <- hs0]; exact (a_ w0 _).1
 obtain ⟨c, c0, c1, c2⟩ := h.xt hx1;obtain ⟨⟨b0, b1, b2, b3⟩, f0, f1, f2, f3⟩ := jr0 HB.out;obtain ⟨q1, q2, q3, q4⟩ := hx;have HX1 := h_ hx1;have hBB := h_ hB;clear hx1 h;unfold zi9;cases cols
 . have HC := h_ (fun w => jzv l x.b x.d w (by omega) (by omega));generalize yJ8 l x.b x.d = r at HC ⊢;obtain ⟨m1, m2, ok⟩ := r;go_enter Tryz.func148, Tryz.ntmps148;go_wp2_with fail;refine (HC.out _).mono ?_;rintro e w2 ⟨rfl, hg2⟩;have hb2 := rowX hg2.xt HB.out;have hr2 := rowX hg2.xt HR.out;obtain ⟨⟨b0, b1, b2, b3⟩, f0, f1, f2, f3⟩ := jr0 hb2;obtain ⟨⟨r0, r1, r2, r3⟩, g0, g1, g2, g3⟩ := jr0 hr2;have HX2 := h_ (HX1.out.trans hg2.xt);obtain ⟨w3, hw3⟩ := e_ ((w2.setCell ⟨B, 1, none⟩ (.int .i64 m1)).setCell ⟨B, 3, none⟩ (.int .i64 m2))
   have hb3 : w3.heap[B]? = some (.cells #[x.a, m1, x.c, m2] 26 (0, 0)) := (by rw [<- hw3]; exact ysv (ysv hb2 1 _) 3 _);have hr3 : w3.heap[B + 1]? = some (.cells #[.int .i64 0, .int .i64 0, .int .i64 0, .int .i64 0] 26 (0, 0)) := (by rw [<- hw3]; exact (s_ _ _ _ _ (by simp)).trans ((s_ _ _ _ _ (by simp)).trans hr2));have hx3 : Xt w w3 := (by rw [<- hw3]; exact (HX2.out.grownB (yiv _ _ _ _) (fun q hq => by cases hq; rw [hBB.out]; exact Nat.le_refl _)).grownB (yiv _ _ _ _) (fun q hq => by cases hq; rw [hBB.out]; exact Nat.le_refl _));obtain ⟨⟨d0, d1, d2, d3⟩, _⟩ := jr0 hb3
   obtain ⟨⟨e0, e1, e2, e3⟩, h0, h1, h2, h3⟩ := jr0 hr3;have hrow : ((((w3.setCell ⟨B + 1, 0, none⟩ (.int .i64 x.a)).setCell ⟨B + 1, 1, none⟩ (.int .i64 m1)).setCell ⟨B + 1, 2, none⟩ (.int .i64 x.c)).setCell ⟨B + 1, 3, none⟩ (.int .i64 m2)).heap[B + 1]? = some (.cells #[x.a, m1, x.c, m2] 26 (0, 0)) := (ysv (ysv (ysv (ysv hr3 0 _) 1 _) 2 _) 3 _)
   have hxe : Xt w ((((w3.setCell ⟨B + 1, 0, none⟩ (.int .i64 x.a)).setCell ⟨B + 1, 1, none⟩ (.int .i64 m1)).setCell ⟨B + 1, 2, none⟩ (.int .i64 x.c)).setCell ⟨B + 1, 3, none⟩ (.int .i64 m2)) := ((((hx3.grownB (yiv _ _ _ _) (fun q hq => by cases hq; rw [hBB.out]; omega)).grownB (yiv _ _ _ _) (fun q hq => by cases hq; rw [hBB.out]; omega)).grownB (yiv _ _ _ _) (fun q hq => by cases hq; rw [hBB.out]; omega)).grownB (yiv _ _ _ _) (fun q hq => by cases hq; rw [hBB.out]; omega));clear hw0 hw1 c c0 c1 c2 hb2 hr2 hg2;go_wp2_with fail
   (try simp only [Exit.inBlock, Exit.then])
   refine p_ (v := .tuple #[.agg #[x.a, m1, x.c, m2], ok]) ?_ rfl ⟨rfl, hxe⟩;rw [results_cell_tmp rfl]
   show ((asAddr (v_ (B + 1))).run _ _).andThen _ = _
   simp only [asAddr, Sem.run_pure, Result.andThen_ok, l_ _ _ _ 26 _ _ _ hrow Tryz.underlying26 rfl (by kernel_rfl)];rfl
 . have HC := h_ (fun w => jzv l x.a x.c w (by omega) (by omega));generalize yJ8 l x.a x.c = r at HC ⊢;obtain ⟨m1, m2, ok⟩ := r;go_enter Tryz.func148, Tryz.ntmps148;go_wp2_with fail;refine (HC.out _).mono ?_;rintro e w2 ⟨rfl, hg2⟩;have hb2 := rowX hg2.xt HB.out;have hr2 := rowX hg2.xt HR.out;obtain ⟨⟨b0, b1, b2, b3⟩, f0, f1, f2, f3⟩ := jr0 hb2;obtain ⟨⟨r0, r1, r2, r3⟩, g0, g1, g2, g3⟩ := jr0 hr2;have HX2 := h_ (HX1.out.trans hg2.xt);obtain ⟨w3, hw3⟩ := e_ ((w2.setCell ⟨B, 0, none⟩ (.int .i64 m1)).setCell ⟨B, 2, none⟩ (.int .i64 m2))
   have hb3 : w3.heap[B]? = some (.cells #[m1, x.b, m2, x.d] 26 (0, 0)) := (by rw [<- hw3]; exact ysv (ysv hb2 0 _) 2 _);have hr3 : w3.heap[B + 1]? = some (.cells #[.int .i64 0, .int .i64 0, .int .i64 0, .int .i64 0] 26 (0, 0)) := (by rw [<- hw3]; exact (s_ _ _ _ _ (by simp)).trans ((s_ _ _ _ _ (by simp)).trans hr2));have hx3 : Xt w w3 := (by rw [<- hw3]; exact (HX2.out.grownB (yiv _ _ _ _) (fun q hq => by cases hq; rw [hBB.out]; exact Nat.le_refl _)).grownB (yiv _ _ _ _) (fun q hq => by cases hq; rw [hBB.out]; exact Nat.le_refl _));obtain ⟨⟨d0, d1, d2, d3⟩, _⟩ := jr0 hb3
   obtain ⟨⟨e0, e1, e2, e3⟩, h0, h1, h2, h3⟩ := jr0 hr3;have hrow : ((((w3.setCell ⟨B + 1, 0, none⟩ (.int .i64 m1)).setCell ⟨B + 1, 1, none⟩ (.int .i64 x.b)).setCell ⟨B + 1, 2, none⟩ (.int .i64 m2)).setCell ⟨B + 1, 3, none⟩ (.int .i64 x.d)).heap[B + 1]? = some (.cells #[m1, x.b, m2, x.d] 26 (0, 0)) := (ysv (ysv (ysv (ysv hr3 0 _) 1 _) 2 _) 3 _)
   have hxe : Xt w ((((w3.setCell ⟨B + 1, 0, none⟩ (.int .i64 m1)).setCell ⟨B + 1, 1, none⟩ (.int .i64 x.b)).setCell ⟨B + 1, 2, none⟩ (.int .i64 m2)).setCell ⟨B + 1, 3, none⟩ (.int .i64 x.d)) := ((((hx3.grownB (yiv _ _ _ _) (fun q hq => by cases hq; rw [hBB.out]; omega)).grownB (yiv _ _ _ _) (fun q hq => by cases hq; rw [hBB.out]; omega)).grownB (yiv _ _ _ _) (fun q hq => by cases hq; rw [hBB.out]; omega)).grownB (yiv _ _ _ _) (fun q hq => by cases hq; rw [hBB.out]; omega));clear hw0 hw1 c c0 c1 c2 hb2 hr2 hg2;go_wp2_with fail
   (try simp only [Exit.inBlock, Exit.then])
   refine p_ (v := .tuple #[.agg #[m1, x.b, m2, x.d], ok]) ?_ rfl ⟨rfl, hxe⟩;rw [results_cell_tmp rfl]
   show ((asAddr (v_ (B + 1))).run _ _).andThen _ = _
   simp only [asAddr, Sem.run_pure, Result.andThen_ok, l_ _ _ _ 26 _ _ _ hrow Tryz.underlying26 rfl (by kernel_rfl)];rfl
abbrev roadV (pc pl : Nat) : Value := .agg #[.func (.func 146) #[] #[v_ pc, v_ pl], .func (.func 148) #[] #[v_ pc, v_ pl]]
theorem yzB (cols : Bool) (l : LinT) (w : World) :
    Calls Tryz.prog 115 #[linV l, .bool cols] w fun e w' => ∃ pc pl, e = .returned (roadV pc pl) /\ LinAt w' pc pl cols l /\ Xt w w' := by
 go_enter Tryz.func115, Tryz.ntmps115;go_wp2_with fail;obtain ⟨w0, hw0⟩ := e_ (w.alloc (.cells #[l.at_, l.n, l.many] 147));rw [hw0];have hs0 : w0.heap.size = w.heap.size + 1 := (by rw [<- hw0]; simp);obtain ⟨w1, hw1⟩ := e_ (w0.alloc (.cells #[.bool cols] 4));rw [hw1];have hs1 : w1.heap.size = w.heap.size + 1 + 1 := (by rw [<- hw1]; simp [hs0]);have hr0 : w1.heap[w.heap.size]? = some (.cells #[l.at_, l.n, l.many] 147 (0, 0)) := by
  rw [<- hw1]; exact (Below.heap_alloc w0 _ _ (by omega)).trans (by rw [<- hw0]; exact (a_ w _).1)
 have hr1 : w1.heap[w.heap.size + 1]? = some (.cells #[.bool cols] 4 (0, 0)) := (by rw [<- hw1, <- hs0]; exact (a_ w0 _).1);have hx1 : Xt w w1 := (by rw [<- hw1, <- hw0]; exact ((Xt.refl w).alloc _).alloc _);have hL : LinAt w1 (w.heap.size + 1) w.heap.size cols l := ⟨by simp [World.cell?, hr1], by simp [World.cell?, hr0], by simp [World.cell?, hr0], by simp [World.cell?, hr0]⟩;refine p_ (t_ rfl _ _ (w.heap.size + 1 + 1) _ _ _ _ rfl (by rw [<- hs1]; exact (a_ w1 _).1) Tryz.underlying97 rfl (by kernel_rfl)) rfl ?_;exact ⟨_, _, rfl, hL.xt ((Xt.refl w1).alloc _), hx1.alloc _⟩
def OwnIn (S : Nat -> Prop) (w : World) : Nat -> Value -> List NodeT -> Prop
 | 0, av, l => l = [] /\ ∃ a, av = .slice a 0 0
 | n + 1, av, l => ∃ a cap, av = .slice a l.length cap /\ l.length <= cap /\ cap <= 9223372036854775807 /\ (0 < cap -> ∃ b cur K, a = some ⟨b, 0, none⟩ /\ S b /\ r_ w b cur 49 /\ cur.size = K * 15 /\ cap <= K /\
     ∀ k t, l[k]? = some t -> ∃ av', (∀ i u, (nodeC t av')[i]? = some u -> w.cell? ⟨b, k * 15 + i, none⟩ = some u) /\ OwnIn S w n av' t.args)
theorem OwnIn.args {S : Nat -> Prop} {w : World} : ∀ {n : Nat} {av : Value} {l : List NodeT}, OwnIn S w n av l -> ArgsIn w n av l
 | 0, _, _, h => by obtain ⟨rfl, a, rfl⟩ := h; exact ⟨rfl, a, 0, rfl, by omega⟩
 | n + 1, _, _, h => by
  obtain ⟨a, cap, rfl, h1, h2, h3⟩ := h;refine ⟨a, cap, rfl, h1, h2, fun hne => ?_⟩;have hpos := List.length_pos_iff.2 hne;obtain ⟨b, cur, K, rfl, _, _, _, _, hc⟩ := h3 (by omega);exact ⟨b, 0, rfl, fun k t ht => let ⟨av', q1, q2⟩ := hc k t ht; ⟨av', by simpa only [Nat.zero_add] using q1, q2.args⟩⟩
theorem OwnIn.keep {S S' : Nat -> Prop} {w w' : World} (hS : ∀ b, S b -> b < w.heap.size -> S' b) (hk : ∀ b, S b -> b < w.heap.size -> w'.heap[b]? = w.heap[b]?) : ∀ {n : Nat} {av : Value} {l : List NodeT}, OwnIn S w n av l -> OwnIn S' w' n av l
 | 0, _, _, h => h
 | n + 1, _, _, h => by
  obtain ⟨a, cap, rfl, h1, h2, h3⟩ := h;refine ⟨a, cap, rfl, h1, h2, fun hpos => ?_⟩;obtain ⟨b, cur, K, rfl, hb, hr, hK, hcK, hc⟩ := h3 hpos;have hlt : b < w.heap.size := (g_ hr).1;exact ⟨b, cur, K, rfl, hS b hb hlt, (hk b hb hlt).trans hr, hK, hcK, fun k t ht => let ⟨av', q1, q2⟩ := hc k t ht; ⟨av', fun i u hu => (d_ (w := w) (a := ⟨b, k * 15 + i, none⟩) (hk b hb hlt)).trans (q1 i u hu), OwnIn.keep hS hk q2⟩⟩
theorem OwnIn.shape {S : Nat -> Prop} {w : World} {n : Nat} {av : Value} {l : List NodeT} (h : OwnIn S w n av l) : ∃ a cap, av = .slice a l.length cap /\ l.length <= cap /\ cap <= 9223372036854775807 := h.args.shape
structure GRows (wr : World) (M : Nat) (g : NodeT -> NodeT) (n : Nat) (ob : Option Nat) (l : List NodeT) (R : List (NodeT × Value)) : Prop where
 fst : R.map Prod.fst = l.map g
 args : ∀ (k : Nat) (r : NodeT × Value), R[k]? = some r -> ∃ n', n = n' + 1 /\ OwnIn (fun b => M <= b /\ ob ≠ some b) wr n' r.2 r.1.args
structure GSt (w ws : World) (O M : Nat) (g : NodeT -> NodeT) (n : Nat) (t2 : NodeT) (l : List NodeT) (wr : World) (i : Nat) (va : Option Addr) (vn vc : Nat) : Prop where
 lo : w.heap.size <= O /\ O < M /\ M = ws.heap.size /\ M <= wr.heap.size
 box : NodeAt wr O 0 t2 va vn vc
 f14 : wr.frozen? ⟨O, 14, none⟩ = false
 none : i = 0 -> vc = 0
 ob : ∀ q, (Value.slice va vn vc).ownBlock = some q -> M <= q
 rows : ∃ R, wr.ownsRow 0 49 15 (.slice va vn vc) i (R.flatMap rowC) /\ GRows wr M g n (Value.slice va vn vc).ownBlock (l.take i) R
 keep : ∀ b, b < M -> b ≠ O -> wr.heap[b]? = ws.heap[b]?
 xt : Xt w wr
theorem yZg {w ws : World} {O : Nat} (g : NodeT -> NodeT) (n : Nat) {t2 : NodeT} (l : List NodeT) (h1 : w.heap.size <= O) (h2 : O < ws.heap.size) (hb : NodeAt ws O 0 t2 none 0 0) (hf : ws.frozen? ⟨O, 14, none⟩ = false) (hx : Xt w ws) :
    GSt w ws O ws.heap.size g n t2 l ws 0 none 0 0 :=
 ⟨⟨h1, h2, rfl, Nat.le_refl _⟩, hb, hf, fun _ => rfl, fun q hq => (by cases hq), ⟨[], World.ownsRow_nil _ _ _ _, rfl, fun k r hk => (by simp at hk)⟩, fun _ _ _ => rfl, hx⟩
theorem GSt.lenR {R : List (NodeT × Value)} {g : NodeT -> NodeT} {l : List NodeT} {i : Nat} (h : R.map Prod.fst = (l.take i).map g) (hi : i <= l.length) : R.length = i := by
 have := congrArg List.length h;simp at this; omega
theorem jua {w ws wr w6 : World} {O M n n' i : Nat} {g : NodeT -> NodeT} {t2 x : NodeT} {l : List NodeT} {va a' : Option Addr} {vn vc c' : Nat} (hn : n = n' + 1) (h : GSt w ws O M g n t2 l wr i va vn vc) (hx : l[i]? = some x) (hl : l.length <= 1099511627744) (h6 : Xt wr w6)
    (hA : OwnIn (fun b => wr.heap.size <= b) w6 n' (.slice a' (g x).args.length c') (g x).args) (wA : World)
    (hwA : w6.alloc (.cells (rN (g x) (.slice a' (g x).args.length c')) 49) = wA) :
    ∃ va' vn' vc' w7, (Builtin.append_ #[47, 47] 47 #[.slice va vn vc, .slice (some ⟨w6.heap.size, 0, none⟩) 1 1]).run Tryz.prog wA = .ok (.slice va' vn' vc') w7 /\ (c_ w6 O 14 (.slice va vn vc) /\ c_ wA O 14 (.slice va vn vc) /\ c_ w7 O 14 (.slice va vn vc)) /\ w7.frozen? ⟨O, 14, none⟩ = false /\
     (∀ b, b < wr.heap.size -> (b < M /\ b ≠ O \/ b < w.heap.size) -> w6.heap[b]? = wr.heap[b]? /\ wA.heap[b]? = wr.heap[b]? /\ w7.heap[b]? = wr.heap[b]? /\ (w7.setCell ⟨O, 14, none⟩ (.slice va' vn' vc')).heap[b]? = wr.heap[b]?) /\
     (∀ b, wr.heap.size <= b -> b < wA.heap.size -> w7.heap[b]? = wA.heap[b]? /\ (w7.setCell ⟨O, 14, none⟩ (.slice va' vn' vc')).heap[b]? = wA.heap[b]?) /\
     GSt w ws O M g n t2 l (w7.setCell ⟨O, 14, none⟩ (.slice va' vn' vc')) (i + 1) va' vn' vc' := by
 obtain ⟨i0, hi, hz0, hz1, hz2⟩ := info_parts jGd;obtain ⟨⟨hO1, hO2, hM, hMr⟩, hbox, hf14, hnone, hob, ⟨R, hown, hRf, hRa⟩, hkeep, hxt⟩ := h;have hil : i < l.length := (List.getElem?_eq_some_iff.1 hx).1;have hBr : O < wr.heap.size := (by omega);have h6s := h6.sz;have hxtA : Xt wr wA := (by rw [<- hwA]; exact h6.alloc _);have hAs : wA.heap.size = w6.heap.size + 1 := (by rw [<- hwA]; simp);have hRl : R.length = i := GSt.lenR hRf (by omega);have hownA : wA.ownsRow 0 49 15 (.slice va vn vc) i (R.flatMap rowC) :=
  World.ownsRow.kept hown (row := none) ⟨hxtA.os, hxtA.tape, hxtA.output, hxtA.size, fun k hk _ => hxtA.block k hk⟩ (by
   cases (Value.slice va vn vc).ownBlock with
   | none => exact Or.inl rfl
   | some q => exact Or.inr (by simp))
 have hnews : ∀ (j : Nat) (u : Value), (nodeC (g x) (.slice a' (g x).args.length c'))[j]? = some u -> wA.cell? ((⟨w6.heap.size, 0, none⟩ : Addr).add j) = some u := by
  rw [<- hwA];exact yVA w6 (nodeC (g x) (.slice a' (g x).args.length c')) 49 (b := w6.heap.size) rfl
 obtain ⟨v', w7, hpush, hown7, hg7, hwh⟩ := jrS (P := Tryz.prog) wA 47 47 49 i0 _ 15 128 Tryz.underlying47 hi hz0 hz1 hz2 rfl (by decide) (.slice va vn vc) i (R.flatMap rowC) hownA ⟨w6.heap.size, 0, none⟩ 1 1 (nodeC (g x) (.slice a' (g x).args.length c')) rfl hnews (jrw _ _ rfl) (by unfold maxLen; omega) (by omega);obtain ⟨va', vc', rfl, hvc1, hvc2⟩ := zDo hown7;have hobl : ∀ q, (Value.slice va vn vc).ownBlock = some q -> q < wr.heap.size := fun q hq => (World.ownsRow.lt hown q hq).2;have hob' : ∀ q, (Value.slice va' (i + 1) vc').ownBlock = some q -> M <= q /\ q < w7.heap.size := by
  intro q hq;have hlt := (World.ownsRow.lt hown7 q hq).2;rcases hwh with e | e
  . rw [e] at hq; exact ⟨hob q hq, hlt⟩
  . have := e q hq; exact ⟨by omega, hlt⟩
 have hx7 : Xt w w7 := (hxt.trans hxtA).grownB hg7 (fun m hm => by have := hob m hm; omega);have hn0 : (Value.slice va vn vc).ownBlock ≠ some O := fun e => by have := hob _ e; omega
 have k7h : ∀ b, b < wr.heap.size -> (Value.slice va vn vc).ownBlock ≠ some b -> w7.heap[b]? = wr.heap[b]? := fun b hb hne =>
  (hg7.block b (by omega) (fun e => hne e.symm)).trans (hxtA.block b hb)
 have k7 : ∀ b o, b < wr.heap.size -> (Value.slice va vn vc).ownBlock ≠ some b -> w7.cell? ⟨b, o, none⟩ = wr.cell? ⟨b, o, none⟩ := fun b o hb hne =>
  d_ (w := wr) (a := ⟨b, o, none⟩) (k7h b hb hne)
 have hc14 := (k7 O 14 hBr hn0).trans hbox.c14;have hcell : ∀ o v, o ≠ 14 -> wr.cell? ⟨O, o, none⟩ = some v -> (w7.setCell ⟨O, 14, none⟩ (.slice va' (i + 1) vc')).cell? ⟨O, o, none⟩ = some v := fun o v ho hv =>
  (o_ w7 _ _ _ (by intro e; cases e; exact ho rfl)).trans ((k7 _ o hBr hn0).trans hv)
 have hf7 : w7.frozen? ⟨O, 14, none⟩ = false :=
  (f_ (w := wr) (a := ⟨O, 14, none⟩) (k7h _ hBr hn0)).trans hf14
 have k8 : ∀ b, b < wr.heap.size -> b ≠ O -> (Value.slice va vn vc).ownBlock ≠ some b -> (w7.setCell ⟨O, 14, none⟩ (.slice va' (i + 1) vc')).heap[b]? = wr.heap[b]? := fun b hb hne hob =>
  (s_ _ _ _ _ hne).trans (k7h b hb hob)
 have hsz7 : M <= w7.heap.size := (by have := hg7.size; omega);refine ⟨va', i + 1, vc', w7, hpush, ⟨((h6.cells).1 _ _ hBr).trans hbox.c14, ((hxtA.cells).1 _ _ hBr).trans hbox.c14, hc14⟩, hf7, fun b hb hor => ?_, fun b hb hl => ?_, ⟨⟨hO1, hO2, hM, by simpa using hsz7⟩, ?_, ?_, fun e => by omega, fun q hq => (hob' q hq).1, ?_, fun b hb hne => (k8 b (by omega) hne (fun e => by have := hob b e; omega)).trans (hkeep b hb hne), hx7.grownB (yiv _ _ _ _) (fun m hm => by cases hm; exact hO1)⟩⟩
 . have hbM : b < M := by rcases hor with h | h <;> omega
   have hbO : b ≠ O := by rcases hor with h | h <;> omega
   exact ⟨h6.block b hb, hxtA.block b hb, k7h b hb (fun e => by have := hob b e; omega), k8 b hb hbO (fun e => by have := hob b e; omega)⟩
 . have e7 : w7.heap[b]? = wA.heap[b]? := hg7.block b hl (fun e => by have := hobl b e.symm; omega);exact ⟨e7, (s_ _ _ _ _ (by show b ≠ O; omega)).trans e7⟩
 . refine ⟨?_, ?_, ?_, ?_, ?_, ?_, ?_, ?_, ?_, ?_, ?_, ?_, ?_, ?_, ?_⟩
   . exact hcell _ _ (by omega) hbox.c0
   . exact hcell _ _ (by omega) hbox.c1
   . exact hcell _ _ (by omega) hbox.c2
   . exact hcell _ _ (by omega) hbox.c3
   . exact hcell _ _ (by omega) hbox.c4
   . exact hcell _ _ (by omega) hbox.c5
   . exact hcell _ _ (by omega) hbox.c6
   . exact hcell _ _ (by omega) hbox.c7
   . exact hcell _ _ (by omega) hbox.c8
   . exact hcell _ _ (by omega) hbox.c9
   . exact hcell _ _ (by omega) hbox.c10
   . exact hcell _ _ (by omega) hbox.c11
   . exact hcell _ _ (by omega) hbox.c12
   . exact hcell _ _ (by omega) hbox.c13
   . rw [Nat.zero_add]; exact World.cell?_setCell_same' w7 _ _ (by rw [hc14]; rfl)
 . simp [hf7]
 . have e7 : (R ++ [(g x, Value.slice a' (g x).args.length c')]).flatMap rowC = R.flatMap rowC ++ nodeC (g x) (.slice a' (g x).args.length c') := (by simp [rowC]);refine ⟨R ++ [(g x, .slice a' (g x).args.length c')], ?_, ?_, ?_⟩
   . rw [e7];exact ownsRow_setCell_other hown7 (a := ⟨O, 14, none⟩) (fun e => by have := (hob' _ e).1; simp at this; omega) _
   . rw [List.map_append, hRf, List.take_add_one, hx]; simp
   . intro k r hk;have hobn : ∀ b, b < w6.heap.size -> (Value.slice va vn vc).ownBlock ≠ some b -> (Value.slice va' (i + 1) vc').ownBlock ≠ some b := by
      intro b hb hne e;rcases hwh with e' | e'
      . rw [e'] at e; exact hne e
      . have := e' b e; omega
     by_cases hkl : k < R.length
     . rw [List.getElem?_append_left hkl] at hk;obtain ⟨n1, hn1', hAk⟩ := hRa k r hk;exact ⟨n1, hn1', hAk.keep (fun b hb hlt => ⟨hb.1, hobn b (by omega) hb.2⟩) (fun b hb hlt => k8 b hlt (by omega) hb.2)⟩
     . rw [List.getElem?_append_right (by omega)] at hk;have hk0 : k - R.length = 0 := by
        rcases Nat.eq_zero_or_pos (k - R.length) with e | e
        . exact e
        . rw [List.getElem?_eq_none (by simp; omega)] at hk; cases hk
       rw [hk0] at hk;simp only [List.getElem?_cons_zero, Option.some.injEq] at hk;subst hk;refine ⟨n', hn, ?_⟩;refine hA.keep (fun b hb hlt => ⟨by omega, hobn b hlt (fun e => by have := hobl b e; omega)⟩) (fun b hb hlt => ?_);refine (s_ _ _ _ _ (by show b ≠ O; omega)).trans ((hg7.block b (by omega) (fun e => by have := hobl b e.symm; omega)).trans ?_);rw [<- hwA];exact Below.heap_alloc w6 _ b hlt
theorem zPC {w ws wr w' : World} {O M n : Nat} {g : NodeT -> NodeT} {t2 : NodeT} {l : List NodeT} {va : Option Addr} {vn vc : Nat} (h : GSt w ws O M g n t2 l wr l.length va vn vc) (hk : ∀ b, M <= b -> b < wr.heap.size -> w'.heap[b]? = wr.heap[b]?) :
    vn = l.length /\ l.length <= vc /\ vc <= 9223372036854775807 /\ ∀ c, c = vc \/ c = l.length -> OwnIn (fun b => M <= b) w' n (.slice va l.length c) (l.map g) := by
 obtain ⟨_, _, _, hnone, hob, ⟨R, hown, hRf, hRa⟩, _⟩ := h;obtain ⟨a2, c2, e, h1, h2⟩ := zDo hown;cases e;refine ⟨rfl, h1, h2, fun c hc => ?_⟩;rw [List.take_length] at hRf;have hRl : R.length = l.length := (by have := congrArg List.length hRf; simpa using this);have hcl : (l.map g).length = l.length := (by simp);have hcv : l.length <= c /\ c <= vc := by rcases hc with e | e <;> omega
 cases n with
 | zero =>
  cases R with
  | nil =>
   have : l = [] := List.eq_nil_of_length_eq_zero (by rw [<- hRl]; rfl);subst this;have hv := hnone rfl;have hc0 : c = 0 := (by omega);subst hc0;exact ⟨rfl, va, rfl⟩
  | cons r R => obtain ⟨n', hn, _⟩ := hRa 0 r rfl; cases hn
 | succ n =>
  refine ⟨va, c, by rw [hcl], by rw [hcl]; omega, by omega, fun hpos => ?_⟩;rcases hown.2 with ⟨e0, h0⟩ | ⟨q, cap, cur, e, _, hgc, _, _, hgs, _⟩
  . simp only [Value.slice.injEq] at e0; omega
  . cases e;have hg2 := hob q rfl;have hgl := (World.ownsRow.lt hown q rfl).2;refine ⟨q, cur, vc, rfl, hg2, (hk q hg2 hgl).trans hgc, hgs, hcv.2, fun k t ht => ?_⟩;rw [<- hRf, List.getElem?_map] at ht;obtain ⟨r, hr, rfl⟩ := Option.map_eq_some_iff.1 ht;obtain ⟨n', hn', hA⟩ := hRa k r hr;cases hn';refine ⟨r.2, fun i u hu => ?_, hA.keep (fun b hb hlt => hb.1) (fun b hb hlt => hk b hb.1 hlt)⟩;have hi : i < 15 := (List.getElem?_eq_some_iff.1 hu).1;have hf := jdX rowC 15 ydP R k i r hr hi;have := World.ownsRow.cells hown (g := q) rfl (k * 15 + i) u (hf.trans hu);rw [d_ (w := wr) (a := ⟨q, k * 15 + i, none⟩) (hk q hg2 hgl)];rw [<- this, Addr.add_lit, Nat.zero_add]
def SepIn (S : Nat -> Prop) (w : World) : Nat -> Value -> List NodeT -> Prop
 | 0, av, l => l = [] /\ ∃ a, av = .slice a 0 0
 | n + 1, av, l => ∃ a cap, av = .slice a l.length cap /\ l.length <= cap /\ cap <= 9223372036854775807 /\ (0 < cap -> ∃ b cur K, ∃ T : Nat -> Nat -> Prop, a = some ⟨b, 0, none⟩ /\ S b /\ r_ w b cur 49 /\ cur.size = K * 15 /\ cap <= K /\
     (∀ k c, T k c -> S c /\ c ≠ b) /\ (∀ k k' c, k ≠ k' -> T k c -> ¬ T k' c) /\
     ∀ k t, l[k]? = some t -> ∃ av', (∀ i u, (nodeC t av')[i]? = some u -> w.cell? ⟨b, k * 15 + i, none⟩ = some u) /\ SepIn (T k) w n av' t.args)
theorem SepIn.own {w : World} : ∀ {S : Nat -> Prop} {n : Nat} {av : Value} {l : List NodeT}, SepIn S w n av l -> OwnIn S w n av l
 | _, 0, _, _, h => h
 | S, n + 1, _, _, h => by
  obtain ⟨a, cap, rfl, h1, h2, h3⟩ := h;refine ⟨a, cap, rfl, h1, h2, fun hpos => ?_⟩;obtain ⟨b, cur, K, T, rfl, hb, hr, hK, hcK, hT, _, hc⟩ := h3 hpos;exact ⟨b, cur, K, rfl, hb, hr, hK, hcK, fun k t ht => let ⟨av', q1, q2⟩ := hc k t ht; ⟨av', q1, q2.own.keep (fun c hc _ => (hT k c hc).1) (fun _ _ _ => rfl)⟩⟩
theorem SepIn.keep {w w' : World} : ∀ {S : Nat -> Prop} {n : Nat} {av : Value} {l : List NodeT}, (∀ b, S b -> b < w.heap.size -> w'.heap[b]? = w.heap[b]?) -> SepIn S w n av l -> SepIn S w' n av l
 | _, 0, _, _, _, h => h
 | S, n + 1, _, _, hk, h => by
  obtain ⟨a, cap, rfl, h1, h2, h3⟩ := h;refine ⟨a, cap, rfl, h1, h2, fun hpos => ?_⟩;obtain ⟨b, cur, K, T, rfl, hb, hr, hK, hcK, hT, hD, hc⟩ := h3 hpos;have hlt : b < w.heap.size := (g_ hr).1;exact ⟨b, cur, K, T, rfl, hb, (hk b hb hlt).trans hr, hK, hcK, hT, hD, fun k t ht => let ⟨av', q1, q2⟩ := hc k t ht; ⟨av', fun i u hu => (d_ (w := w) (a := ⟨b, k * 15 + i, none⟩) (hk b hb hlt)).trans (q1 i u hu), q2.keep (fun c hc => hk c (hT k c hc).1)⟩⟩
theorem SepIn.weak {w : World} {S S' : Nat -> Prop} (hS : ∀ b, S b -> b < w.heap.size -> S' b) : ∀ {n : Nat} {av : Value} {l : List NodeT}, SepIn S w n av l -> SepIn (fun b => S' b) w n av l
 | 0, _, _, h => h
 | n + 1, _, _, h => by
  obtain ⟨a, cap, rfl, h1, h2, h3⟩ := h;refine ⟨a, cap, rfl, h1, h2, fun hpos => ?_⟩;obtain ⟨b, cur, K, T, rfl, hb, hr, hK, hcK, hT, hD, hc⟩ := h3 hpos;have hlt : b < w.heap.size := (g_ hr).1;exact ⟨b, cur, K, fun k c => T k c /\ c < w.heap.size, rfl, hS b hb hlt, hr, hK, hcK, fun k c h => ⟨hS c (hT k c h.1).1 h.2, (hT k c h.1).2⟩, fun k k' c hne h h' => hD k k' c hne h.1 h'.1, fun k t ht => let ⟨av', q1, q2⟩ := hc k t ht; ⟨av', q1, SepIn.weak (S := T k) (S' := fun c => T k c /\ c < w.heap.size) (fun c h hl => ⟨h, hl⟩) q2⟩⟩
structure SRows (wr : World) (M : Nat) (g : NodeT -> NodeT) (n : Nat) (ob : Option Nat) (l : List NodeT) (R : List (NodeT × Value)) : Prop where
 fst : R.map Prod.fst = l.map g
 args : ∃ lo hi : Nat -> Nat, (∀ (k : Nat) (r : NodeT × Value), R[k]? = some r -> ∃ n', n = n' + 1 /\ SepIn (fun b => lo k <= b /\ b < hi k) wr n' r.2 r.1.args) /\ (∀ k, k < R.length -> M <= lo k /\ hi k <= wr.heap.size /\ ∀ q, ob = some q -> ¬ (lo k <= q /\ q < hi k)) /\ (∀ k k', k < k' -> k' < R.length -> hi k <= lo k')
structure SSt (w ws : World) (O M : Nat) (g : NodeT -> NodeT) (n : Nat) (t2 : NodeT) (l : List NodeT) (wr : World) (i : Nat) (va : Option Addr) (vn vc : Nat) : Prop where
 lo : w.heap.size <= O /\ O < M /\ M = ws.heap.size /\ M <= wr.heap.size
 box : NodeAt wr O 0 t2 va vn vc
 f14 : wr.frozen? ⟨O, 14, none⟩ = false
 none : i = 0 -> vc = 0
 ob : ∀ q, (Value.slice va vn vc).ownBlock = some q -> M <= q
 rows : ∃ R, wr.ownsRow 0 49 15 (.slice va vn vc) i (R.flatMap rowC) /\ SRows wr M g n (Value.slice va vn vc).ownBlock (l.take i) R
 keep : ∀ b, b < M -> b ≠ O -> wr.heap[b]? = ws.heap[b]?
 xt : Xt w wr
theorem yWw {w ws : World} {O : Nat} (g : NodeT -> NodeT) (n : Nat) {t2 : NodeT} (l : List NodeT) (h1 : w.heap.size <= O) (h2 : O < ws.heap.size) (hb : NodeAt ws O 0 t2 none 0 0) (hf : ws.frozen? ⟨O, 14, none⟩ = false) (hx : Xt w ws) :
    SSt w ws O ws.heap.size g n t2 l ws 0 none 0 0 :=
 ⟨⟨h1, h2, rfl, Nat.le_refl _⟩, hb, hf, fun _ => rfl, fun q hq => (by cases hq), ⟨[], World.ownsRow_nil _ _ _ _, rfl, fun _ => 0, fun _ => 0, fun k r hk => (by simp at hk), fun k hk => (by simp at hk), fun k k' _ hk => (by simp at hk)⟩, fun _ _ _ => rfl, hx⟩
theorem SSt.lenR {R : List (NodeT × Value)} {g : NodeT -> NodeT} {l : List NodeT} {i : Nat} (h : R.map Prod.fst = (l.take i).map g) (hi : i <= l.length) : R.length = i := by
 have := congrArg List.length h;simp at this; omega
theorem zCn {w ws wr w6 : World} {O M n n' i : Nat} {g : NodeT -> NodeT} {t2 x : NodeT} {l : List NodeT} {va a' : Option Addr} {vn vc c' : Nat} (hn : n = n' + 1) (h : SSt w ws O M g n t2 l wr i va vn vc) (hx : l[i]? = some x) (hl : l.length <= 1099511627744) (h6 : Xt wr w6)
    (hA : SepIn (fun b => wr.heap.size <= b /\ b < w6.heap.size) w6 n' (.slice a' (g x).args.length c') (g x).args) (wA : World)
    (hwA : w6.alloc (.cells (rN (g x) (.slice a' (g x).args.length c')) 49) = wA) :
    ∃ va' vn' vc' w7, (Builtin.append_ #[47, 47] 47 #[.slice va vn vc, .slice (some ⟨w6.heap.size, 0, none⟩) 1 1]).run Tryz.prog wA = .ok (.slice va' vn' vc') w7 /\ (c_ w6 O 14 (.slice va vn vc) /\ c_ wA O 14 (.slice va vn vc) /\ c_ w7 O 14 (.slice va vn vc)) /\ w7.frozen? ⟨O, 14, none⟩ = false /\
     (∀ b, b < wr.heap.size -> (b < M /\ b ≠ O \/ b < w.heap.size) -> w6.heap[b]? = wr.heap[b]? /\ wA.heap[b]? = wr.heap[b]? /\ w7.heap[b]? = wr.heap[b]? /\ (w7.setCell ⟨O, 14, none⟩ (.slice va' vn' vc')).heap[b]? = wr.heap[b]?) /\
     (∀ b, wr.heap.size <= b -> b < wA.heap.size -> w7.heap[b]? = wA.heap[b]? /\ (w7.setCell ⟨O, 14, none⟩ (.slice va' vn' vc')).heap[b]? = wA.heap[b]?) /\
     SSt w ws O M g n t2 l (w7.setCell ⟨O, 14, none⟩ (.slice va' vn' vc')) (i + 1) va' vn' vc' := by
 obtain ⟨i0, hi, hz0, hz1, hz2⟩ := info_parts jGd;obtain ⟨⟨hO1, hO2, hM, hMr⟩, hbox, hf14, hnone, hob, ⟨R, hown, hRf, lo, hi', hRa, hRb, hRc⟩, hkeep, hxt⟩ := h;have hil : i < l.length := (List.getElem?_eq_some_iff.1 hx).1;have hBr : O < wr.heap.size := (by omega);have h6s := h6.sz;have hxtA : Xt wr wA := (by rw [<- hwA]; exact h6.alloc _);have hAs : wA.heap.size = w6.heap.size + 1 := (by rw [<- hwA]; simp);have hRl : R.length = i := SSt.lenR hRf (by omega);have hownA : wA.ownsRow 0 49 15 (.slice va vn vc) i (R.flatMap rowC) :=
  World.ownsRow.kept hown (row := none) ⟨hxtA.os, hxtA.tape, hxtA.output, hxtA.size, fun k hk _ => hxtA.block k hk⟩ (by
   cases (Value.slice va vn vc).ownBlock with
   | none => exact Or.inl rfl
   | some q => exact Or.inr (by simp))
 have hnews : ∀ (j : Nat) (u : Value), (nodeC (g x) (.slice a' (g x).args.length c'))[j]? = some u -> wA.cell? ((⟨w6.heap.size, 0, none⟩ : Addr).add j) = some u := by
  rw [<- hwA];exact yVA w6 (nodeC (g x) (.slice a' (g x).args.length c')) 49 (b := w6.heap.size) rfl
 obtain ⟨v', w7, hpush, hown7, hg7, hwh⟩ := jrS (P := Tryz.prog) wA 47 47 49 i0 _ 15 128 Tryz.underlying47 hi hz0 hz1 hz2 rfl (by decide) (.slice va vn vc) i (R.flatMap rowC) hownA ⟨w6.heap.size, 0, none⟩ 1 1 (nodeC (g x) (.slice a' (g x).args.length c')) rfl hnews (jrw _ _ rfl) (by unfold maxLen; omega) (by omega);obtain ⟨va', vc', rfl, hvc1, hvc2⟩ := zDo hown7;have hobl : ∀ q, (Value.slice va vn vc).ownBlock = some q -> q < wr.heap.size := fun q hq => (World.ownsRow.lt hown q hq).2;have hob' : ∀ q, (Value.slice va' (i + 1) vc').ownBlock = some q -> M <= q /\ q < w7.heap.size := by
  intro q hq;have hlt := (World.ownsRow.lt hown7 q hq).2;rcases hwh with e | e
  . rw [e] at hq; exact ⟨hob q hq, hlt⟩
  . have := e q hq; exact ⟨by omega, hlt⟩
 have hx7 : Xt w w7 := (hxt.trans hxtA).grownB hg7 (fun m hm => by have := hob m hm; omega);have hn0 : (Value.slice va vn vc).ownBlock ≠ some O := fun e => by have := hob _ e; omega
 have k7h : ∀ b, b < wr.heap.size -> (Value.slice va vn vc).ownBlock ≠ some b -> w7.heap[b]? = wr.heap[b]? := fun b hb hne =>
  (hg7.block b (by omega) (fun e => hne e.symm)).trans (hxtA.block b hb)
 have k7 : ∀ b o, b < wr.heap.size -> (Value.slice va vn vc).ownBlock ≠ some b -> w7.cell? ⟨b, o, none⟩ = wr.cell? ⟨b, o, none⟩ := fun b o hb hne =>
  d_ (w := wr) (a := ⟨b, o, none⟩) (k7h b hb hne)
 have hc14 := (k7 O 14 hBr hn0).trans hbox.c14;have hcell : ∀ o v, o ≠ 14 -> wr.cell? ⟨O, o, none⟩ = some v -> (w7.setCell ⟨O, 14, none⟩ (.slice va' (i + 1) vc')).cell? ⟨O, o, none⟩ = some v := fun o v ho hv =>
  (o_ w7 _ _ _ (by intro e; cases e; exact ho rfl)).trans ((k7 _ o hBr hn0).trans hv)
 have hf7 : w7.frozen? ⟨O, 14, none⟩ = false :=
  (f_ (w := wr) (a := ⟨O, 14, none⟩) (k7h _ hBr hn0)).trans hf14
 have k8 : ∀ b, b < wr.heap.size -> b ≠ O -> (Value.slice va vn vc).ownBlock ≠ some b -> (w7.setCell ⟨O, 14, none⟩ (.slice va' (i + 1) vc')).heap[b]? = wr.heap[b]? := fun b hb hne hob =>
  (s_ _ _ _ _ hne).trans (k7h b hb hob)
 have hsz7 : M <= w7.heap.size := (by have := hg7.size; omega);refine ⟨va', i + 1, vc', w7, hpush, ⟨((h6.cells).1 _ _ hBr).trans hbox.c14, ((hxtA.cells).1 _ _ hBr).trans hbox.c14, hc14⟩, hf7, fun b hb hor => ?_, fun b hb hl => ?_, ⟨⟨hO1, hO2, hM, by simpa using hsz7⟩, ?_, ?_, fun e => by omega, fun q hq => (hob' q hq).1, ?_, fun b hb hne => (k8 b (by omega) hne (fun e => by have := hob b e; omega)).trans (hkeep b hb hne), hx7.grownB (yiv _ _ _ _) (fun m hm => by cases hm; exact hO1)⟩⟩
 . have hbM : b < M := by rcases hor with h | h <;> omega
   have hbO : b ≠ O := by rcases hor with h | h <;> omega
   exact ⟨h6.block b hb, hxtA.block b hb, k7h b hb (fun e => by have := hob b e; omega), k8 b hb hbO (fun e => by have := hob b e; omega)⟩
 . have e7 : w7.heap[b]? = wA.heap[b]? := hg7.block b hl (fun e => by have := hobl b e.symm; omega);exact ⟨e7, (s_ _ _ _ _ (by show b ≠ O; omega)).trans e7⟩
 . refine ⟨?_, ?_, ?_, ?_, ?_, ?_, ?_, ?_, ?_, ?_, ?_, ?_, ?_, ?_, ?_⟩
   . exact hcell _ _ (by omega) hbox.c0
   . exact hcell _ _ (by omega) hbox.c1
   . exact hcell _ _ (by omega) hbox.c2
   . exact hcell _ _ (by omega) hbox.c3
   . exact hcell _ _ (by omega) hbox.c4
   . exact hcell _ _ (by omega) hbox.c5
   . exact hcell _ _ (by omega) hbox.c6
   . exact hcell _ _ (by omega) hbox.c7
   . exact hcell _ _ (by omega) hbox.c8
   . exact hcell _ _ (by omega) hbox.c9
   . exact hcell _ _ (by omega) hbox.c10
   . exact hcell _ _ (by omega) hbox.c11
   . exact hcell _ _ (by omega) hbox.c12
   . exact hcell _ _ (by omega) hbox.c13
   . rw [Nat.zero_add]; exact World.cell?_setCell_same' w7 _ _ (by rw [hc14]; rfl)
 . simp [hf7]
 . have e7 : (R ++ [(g x, Value.slice a' (g x).args.length c')]).flatMap rowC = R.flatMap rowC ++ nodeC (g x) (.slice a' (g x).args.length c') := (by simp [rowC]);have hobn : ∀ b, b < w6.heap.size -> (Value.slice va vn vc).ownBlock ≠ some b -> (Value.slice va' (i + 1) vc').ownBlock ≠ some b := by
    intro b hb hne e;rcases hwh with e' | e'
    . rw [e'] at e; exact hne e
    . have := e' b e; omega
   refine ⟨R ++ [(g x, .slice a' (g x).args.length c')], ?_, ?_, fun k => if k < i then lo k else wr.heap.size, fun k => if k < i then hi' k else w6.heap.size, ?_, ?_, ?_⟩
   . rw [e7];exact ownsRow_setCell_other hown7 (a := ⟨O, 14, none⟩) (fun e => by have := (hob' _ e).1; simp at this; omega) _
   . rw [List.map_append, hRf, List.take_add_one, hx]; simp
   . intro k r hk;by_cases hkl : k < R.length
     . rw [List.getElem?_append_left hkl] at hk;obtain ⟨n1, hn1', hAk⟩ := hRa k r hk;obtain ⟨b1, b2, b3⟩ := hRb k hkl;have hki : k < i := (by omega);simp only [hki, if_true];exact ⟨n1, hn1', hAk.keep (fun b hb hlt => k8 b hlt (by omega) (fun e => b3 b e hb))⟩
     . rw [List.getElem?_append_right (by omega)] at hk;have hk0 : k - R.length = 0 := by
        rcases Nat.eq_zero_or_pos (k - R.length) with e | e
        . exact e
        . rw [List.getElem?_eq_none (by simp; omega)] at hk; cases hk
       rw [hk0] at hk;simp only [List.getElem?_cons_zero, Option.some.injEq] at hk;subst hk;have hki : ¬ k < i := (by omega);simp only [hki, if_false];refine ⟨n', hn, hA.keep (fun b hb hlt => ?_)⟩;refine (s_ _ _ _ _ (by show b ≠ O; omega)).trans ((hg7.block b (by omega) (fun e => by have := hobl b e.symm; omega)).trans ?_);rw [<- hwA];exact Below.heap_alloc w6 _ b hlt
   . intro k hk;have hsz8 : (w7.setCell ⟨O, 14, none⟩ (.slice va' (i + 1) vc')).heap.size = w7.heap.size := (by simp);have hs7 := hg7.size;by_cases hki : k < i
     . obtain ⟨b1, b2, b3⟩ := hRb k (by omega);simp only [hki, if_true];refine ⟨b1, by omega, fun q hq hb => ?_⟩;rcases hwh with e' | e'
       . rw [e'] at hq; exact b3 q hq hb
       . have := e' q hq; omega
     . simp only [hki, if_false];refine ⟨hMr, by omega, fun q hq hb => ?_⟩;rcases hwh with e' | e'
       . rw [e'] at hq; have := hobl q hq; omega
       . have := e' q hq; omega
   . intro k k' hkk hk';simp only [List.length_append, List.length_cons, List.length_nil] at hk';by_cases hki' : k' < i
     . have hki : k < i := (by omega);simp only [hki, hki', if_true];exact hRc k k' hkk (by omega)
     . have hki : k < i := (by omega);obtain ⟨b1, b2, b3⟩ := hRb k (by omega);simp only [hki, hki', if_true, if_false];exact b2
theorem ygG {w ws wr w' : World} {O M n : Nat} {g : NodeT -> NodeT} {t2 : NodeT} {l : List NodeT} {va : Option Addr} {vn vc : Nat} (h : SSt w ws O M g n t2 l wr l.length va vn vc) (hk : ∀ b, M <= b -> b < wr.heap.size -> w'.heap[b]? = wr.heap[b]?) :
    vn = l.length /\ l.length <= vc /\ vc <= 9223372036854775807 /\ ∀ c, c = vc \/ c = l.length -> SepIn (fun b => M <= b /\ b < wr.heap.size) w' n (.slice va l.length c) (l.map g) := by
 obtain ⟨_, _, _, hnone, hob, ⟨R, hown, hRf, lo, hi', hRa, hRb, hRc⟩, _⟩ := h;obtain ⟨a2, c2, e, h1, h2⟩ := zDo hown;cases e;refine ⟨rfl, h1, h2, fun c hc => ?_⟩;rw [List.take_length] at hRf;have hRl : R.length = l.length := (by have := congrArg List.length hRf; simpa using this);have hcl : (l.map g).length = l.length := (by simp);have hcv : l.length <= c /\ c <= vc := by rcases hc with e | e <;> omega
 cases n with
 | zero =>
  cases R with
  | nil =>
   have : l = [] := List.eq_nil_of_length_eq_zero (by rw [<- hRl]; rfl);subst this;have hv := hnone rfl;have hc0 : c = 0 := (by omega);subst hc0;exact ⟨rfl, va, rfl⟩
  | cons r R => obtain ⟨n', hn, _⟩ := hRa 0 r rfl; cases hn
 | succ n =>
  refine ⟨va, c, by rw [hcl], by rw [hcl]; omega, by omega, fun hpos => ?_⟩;rcases hown.2 with ⟨e0, h0⟩ | ⟨q, cap, cur, e, _, hgc, _, _, hgs, _⟩
  . simp only [Value.slice.injEq] at e0; omega
  . cases e;have hg2 := hob q rfl;have hgl := (World.ownsRow.lt hown q rfl).2;refine ⟨q, cur, vc, fun k c => k < R.length /\ lo k <= c /\ c < hi' k, rfl, ⟨hg2, hgl⟩, (hk q hg2 hgl).trans hgc, hgs, hcv.2, fun k c hc => ?_, fun k k' c hne h h' => ?_, fun k t ht => ?_⟩
    . obtain ⟨b1, b2, b3⟩ := hRb k hc.1;exact ⟨⟨by omega, by omega⟩, fun e => b3 q rfl (by subst e; exact hc.2)⟩
    . rcases Nat.lt_or_gt_of_ne hne with e | e
      . have := hRc k k' e h'.1; omega
      . have := hRc k' k e h.1; omega
    rw [<- hRf, List.getElem?_map] at ht;obtain ⟨r, hr, rfl⟩ := Option.map_eq_some_iff.1 ht;obtain ⟨n', hn', hA⟩ := hRa k r hr;cases hn';refine ⟨r.2, fun i u hu => ?_, ((hA.keep (w' := w') (fun b hb hlt => hk b (by have := (hRb k (List.getElem?_eq_some_iff.1 hr).1).1; omega) hlt)).weak (fun b hb _ => ⟨(List.getElem?_eq_some_iff.1 hr).1, hb.1, hb.2⟩))⟩;have hi : i < 15 := (List.getElem?_eq_some_iff.1 hu).1;have hf := jdX rowC 15 ydP R k i r hr hi;have := World.ownsRow.cells hown (g := q) rfl (k * 15 + i) u (hf.trans hu);rw [d_ (w := wr) (a := ⟨q, k * 15 + i, none⟩) (hk q hg2 hgl)];rw [<- this, Addr.add_lit, Nat.zero_add]
def jls (m a n : Int) : LinT × Bool := (⟨a, n, m⟩, decide (1 <= a) && decide (a <= m) && decide (-m <= n) && decide (n <= m))
theorem yWE : IntKind.i64.wrap (-4096) = -4096 := by rw [IntKind.wrap_i64]; omega
theorem jOu : IntKind.i64.wrap (-256) = -256 := by rw [IntKind.wrap_i64]; omega
theorem cells3 {w : World} {b : Nat} {u v x : Value} {T : TypeId} (h : w.heap[b]? = some (.cells #[u, v, x] T (0, 0))) : (c_ w b 0 u /\ c_ w b 1 v /\ c_ w b 2 x) /\ w.frozen? ⟨b, 0, none⟩ = false /\ w.frozen? ⟨b, 1, none⟩ = false /\ w.frozen? ⟨b, 2, none⟩ = false := by
 refine ⟨⟨?_, ?_, ?_⟩, ?_, ?_, ?_⟩ <;> simp [World.cell?, World.frozen?, h]
theorem y3G (b : Bool) (a n : Int) (w : World) :
    Calls Tryz.prog 114 #[b, a, .int .i64 n] w fun e w' => e = .returned (.tuple #[linV (jls (if b then 256 else 4096) a n).1, .bool (jls (if b then 256 else 4096) a n).2]) /\ Xt w w' := by
 unfold jls;obtain ⟨m, hm, hk⟩ : ∃ m : Int, (if b then (256 : Int) else 4096) = m /\ IntKind.i64.wrap (-m) = -m := ⟨_, rfl, by cases b; exact yWE; exact jOu⟩;rw [hm];obtain ⟨B, hB⟩ := e_ w.heap.size;obtain ⟨w0, hw0⟩ := e_ (w.alloc (.cells #[.int .i64 0, .int .i64 0, .int .i64 0] 147));have hs0 : w0.heap.size = B + 1 := (by rw [<- hw0, <- hB]; simp);obtain ⟨w1, hw1⟩ := e_ (w0.alloc (.cells #[a, .int .i64 n, .int .i64 m] 147));have hx1 : Xt w w1 := (by rw [<- hw1, <- hw0]; exact ((Xt.refl w).alloc _).alloc _);have hZ : w1.heap[B]? = some (.cells #[.int .i64 0, .int .i64 0, .int .i64 0] 147 (0, 0)) := by
  rw [<- hw1]; exact (Below.heap_alloc w0 _ _ (by omega)).trans (by rw [<- hw0, <- hB]; exact (a_ w _).1)
 have hL : w1.heap[B + 1]? = some (.cells #[a, .int .i64 n, .int .i64 m] 147 (0, 0)) := (by rw [<- hw1, <- hs0]; exact (a_ w0 _).1);obtain ⟨⟨b0, b1, b2⟩, f0, f1, f2⟩ := cells3 hZ;obtain ⟨hl, _⟩ := cells3 hL;obtain ⟨w2, hw2⟩ := e_ (((w1.setCell ⟨B, 0, none⟩ (.int .i64 a)).setCell ⟨B, 1, none⟩ (.int .i64 n)).setCell ⟨B, 2, none⟩ (.int .i64 m));have e : ∀ o, w2.cell? ⟨B + 1, o, none⟩ = w1.cell? ⟨B + 1, o, none⟩ := fun o => by
  rw [<- hw2, o_ _ _ _ _ (by simp), o_ _ _ _ _ (by simp), o_ _ _ _ _ (by simp)]
 have hw3 := h_ (And.intro ((e 0).trans hl.1) (And.intro ((e 1).trans hl.2.1) ((e 2).trans hl.2.2)));have HRW : Hid (w2.drew.heap[B]? = some (.cells #[a, .int .i64 n, .int .i64 m] 147 (0, 0))) := (by unfold Hid; rw [<- hw2]; exact ysv (ysv (ysv hZ 0 _) 1 _) 2 _);have HXE : Hid (Xt w w2.drew) := (by unfold Hid; rw [<- hw2]; exact Xt.drew (((hx1.grownB (yiv _ _ _ _) (fun q hq => by cases hq; omega)).grownB (yiv _ _ _ _) (fun q hq => by cases hq; omega)).grownB (yiv _ _ _ _) (fun q hq => by cases hq; omega)));have HW2 := h_ hw2;clear hZ hL e hx1 hw2;cases b
 all_goals (try simp only [Bool.false_eq_true, if_false, if_true] at hm); have HM := h_ hm; clear hm
 all_goals go_enter Tryz.func114, Tryz.ntmps114
 all_goals go_upto_region 4 with fail
 all_goals
  rw [HM.out, hw1];clear HM hB hw0 hs0 hw1;obtain h1 | ⟨h1, h2⟩ | ⟨h1, h2, h3⟩ | ⟨h1, h2, h3, h4⟩ | ⟨h1, h2, h3, h4⟩ : ¬ 1 <= a \/ 1 <= a /\ ¬ a <= m \/ 1 <= a /\ a <= m /\ ¬ -m <= n \/ 1 <= a /\ a <= m /\ -m <= n /\ ¬ n <= m \/ 1 <= a /\ a <= m /\ -m <= n /\ n <= m := by omega
  all_goals
   refine rg (fun w' => c_ w' (B + 1) 0 a /\ c_ w' (B + 1) 1 (.int .i64 n) /\ c_ w' (B + 1) 2 (.int .i64 m)) hl fun hHeld => ?_;first | refine sk 0 ?_ | refine tkS 0 ?_
   first | refine sk 1 ?_ | refine tkS 1 ?_
   first | refine sk 2 ?_ | refine tkS 2 ?_
   first | refine sk 3 ?_ | refine tkS 3 ?_
   first | refine sk 4 ?_ | refine tkS 4 ?_
   first | refine sk 5 ?_ | refine tkS 5 ?_
   first | refine sk 6 ?_ | refine tkS 6 ?_
   first | refine sk 7 ?_ | refine tkS 7 ?_
   first | refine sk 8 ?_ | refine tkS 8 ?_
   first | refine sk 9 ?_ | refine tkS 9 ?_
   first | refine sk 10 ?_ | refine tkS 10 ?_
   first | refine sk 11 ?_ | refine tkS 11 ?_
   first | refine sk 12 ?_ | refine tkS 12 ?_
   first | refine sk 13 ?_ | refine tkS 13 ?_
   first | refine sk 14 ?_ | refine tkS 14 ?_
   first | refine sk 15 ?_ | refine tkS 15 ?_
   first | refine sk 16 ?_ | refine tkS 16 ?_
   first | refine sk 17 ?_ | refine tkS 17 ?_
   first | refine sk 18 ?_ | refine tkS 18 ?_
   first | refine sk 19 ?_ | refine tkS 19 ?_
   first | refine sk 20 ?_ | refine tkS 20 ?_
   first | refine sk 21 ?_ | refine tkS 21 ?_
   refine rdH 22 (fun K hK => ?_);go_simp;rw [HW2.out];refine ko hK hw3.out fun hHeld2 => ?_;clear hK K;refine rdH 23 (fun K hK => ?_);go_simp;refine hK.out _ _ hw3.out (fun hHeld2 => ?_);clear hK K;refine z_ (by kernel_rfl) ?_ _;go_wp2_with fail
   (try simp only [Exit.inBlock, Exit.then])
   refine p_ (v := .tuple #[.agg #[a, .int .i64 n, .int .i64 m], .bool ?_]) ?_ rfl ⟨?_, HXE.out⟩;rotate_left
   . rw [results_cell_tmp rfl]
     show ((asAddr (v_ B)).run _ _).andThen _ = _
     simp only [asAddr, Sem.run_pure, Result.andThen_ok, l_ _ _ _ 147 _ _ _ HRW.out Tryz.underlying147 rfl (by kernel_rfl)];rfl
   . unfold linV; simp [*] <;> (intros; omega)
theorem jOS (a n : Int) (w : World) :
    Calls Tryz.prog 114 #[.bool false, a, .int .i64 n] w fun e w' => e = .returned (.tuple #[linV (jls 4096 a n).1, (jls 4096 a n).2]) /\ Xt w w' := y3G false a n w
theorem zLq (a n : Int) (w : World) :
    Calls Tryz.prog 114 #[.bool true, a, .int .i64 n] w fun e w' => e = .returned (.tuple #[linV (jls 256 a n).1, (jls 256 a n).2]) /\ Xt w w' := y3G true a n w
end
end Go.Proofs.YtdoeejhdenifpaaGreatDoor
