import Derived.Test.YtdoeejhdenifpaaGreatDoorB20
import Derived.Test.YtdoeejhdenifpaaGreatDoorB19
import Derived.Test.YtdoeejhdenifpaaGreatDoorB16
import Derived.Test.YtdoeejhdenifpaaGreatDoorB17
set_option maxRecDepth 100000
set_option maxHeartbeats 16000000
namespace Go.Proofs.YtdoeejhdenifpaaGreatDoor
section
open Go.RowKit Go.Sort
abbrev PutE := Ad × CE
def ceC (x : CE) : List Value := [.int .i64 x.1.kind, .int .i64 x.1.v.kind, .float .f64 x.1.v.x, .string x.1.v.s, .bool x.1.v.b, .int .i64 x.1.v.f, .int .i64 x.1.t.kind, .int .i64 x.1.t.op, .float .f64 x.1.t.x, .string x.1.t.s, .bool x.1.t.b, .int .i64 x.1.t.f, .int .i64 x.1.t.ref.a.1, .int .i64 x.1.t.ref.a.2, .bool x.1.t.ref.cf, .bool x.1.t.ref.rf, .int .i64 x.1.t.to.a.1, .int .i64 x.1.t.to.a.2, .bool x.1.t.to.cf, .bool x.1.t.to.rf, .slice x.2 x.1.t.args.length x.1.t.args.length]
def putC (x : PutE) : List Value := adC x.1 ++ ceC x.2
def okPut (S : Nat -> Prop) (w : World) (x : PutE) : Prop := yQE x.2.1.t /\ ∃ n, ArgsS S w n (.slice x.2.2 x.2.1.t.args.length x.2.1.t.args.length) x.2.1.t.args
theorem okPut.keep {S S' : Nat -> Prop} {w w' : World} {x : PutE} (h : okPut S w x) (hS : ∀ b, S b -> b < w.heap.size -> S' b) (hk : ∀ b o, S b -> b < w.heap.size -> w'.cell? ⟨b, o, none⟩ = w.cell? ⟨b, o, none⟩) : okPut S' w' x :=
 ⟨h.1, let ⟨n, hn⟩ := h.2; ⟨n, hn.keep hS hk⟩⟩
structure PutsOwn (w : World) (base : Nat) (v : Value) (l : List PutE) : Prop where
 own : OwnL w base 70 23 putC v l
 args : ∀ x ∈ l, okPut (fun b => base <= b /\ v.ownBlock ≠ some b) w x
theorem PutsOwn.nil (w : World) (base : Nat) : PutsOwn w base (.slice none 0 0) [] := ⟨World.ownsRow_nil _ _ _ _, fun x hx => by cases hx⟩
theorem PutsOwn.xt {w w' : World} {base : Nat} {v : Value} {l : List PutE} (h : PutsOwn w base v l) (hx : Xt w w') : PutsOwn w' base v l :=
 ⟨h.own.xt hx, fun x hx' => (h.args x hx').keep (fun _ hb _ => hb) (fun b o _ hl => (hx.cells).1 b o hl)⟩
theorem jwJ : (Tryz.prog.info? 70).map (fun i => (i.zero, i.size, i.bytes)) = some (some (.agg #[.int .i64 0, .int .i64 0, .int .i64 0, .int .i64 0, .float .f64 0, .string ⟨#[]⟩, .bool false, .int .i64 0, .int .i64 0, .int .i64 0, .float .f64 0, .string ⟨#[]⟩, .bool false, .int .i64 0, .int .i64 0, .int .i64 0, .bool false, .bool false, .int .i64 0, .int .i64 0, .bool false, .bool false, .slice none 0 0]), 23, 200) := by kernel_rfl
end
section
open Go.RowKit Go.Sort Go.MapKept
attribute [local go_sem] Oper.semAt_some
theorem zUi {w : World} {b : Nat} {v0 v1 v2 v3 : Value} {T : TypeId} (h : w.heap[b]? = some (.cells #[v0, v1, v2, v3] T (0, 0))) :
    c_ w b 0 v0 /\ c_ w b 1 v1 /\ c_ w b 2 v2 /\ c_ w b 3 v3 /\ w.frozen? ⟨b, 0, none⟩ = false /\ w.frozen? ⟨b, 1, none⟩ = false /\ w.frozen? ⟨b, 2, none⟩ = false /\ w.frozen? ⟨b, 3, none⟩ = false := by
 refine ⟨?_, ?_, ?_, ?_, ?_, ?_, ?_, ?_⟩ <;> simp [World.cell?, World.frozen?, h]
theorem jRb (n b : Int) (fx : Bool) (w : World) :
    Calls Tryz.prog 178 #[.int .i64 n, b, fx] w fun e w' => e = .returned (.int .i64 (shN n b fx)) /\ w = w' := by
 unfold shN;cases fx
 . simp only [Bool.false_eq_true, if_false];by_cases h1 : 1048576 < b
   . rw [if_pos h1];go_enter Tryz.func178, Tryz.ntmps178;go_wp2;go_ret;exact ⟨rfl, rfl⟩
   . rw [if_neg h1];by_cases h2 : b < -1048576
     . rw [if_pos h2];go_enter Tryz.func178, Tryz.ntmps178;go_wp2;go_ret;exact ⟨rfl, rfl⟩
     . rw [if_neg h2];obtain ⟨s, hs⟩ := e_ (wrap64 (n + b));go_enter Tryz.func178, Tryz.ntmps178;go_wp2;go_ret;exact ⟨by simp, rfl⟩
 . simp only [if_true];go_enter Tryz.func178, Tryz.ntmps178;go_wp2;go_ret;exact ⟨rfl, rfl⟩
theorem ze1 (x : RefT) (cc rr : Int) (w : World) :
    Calls Tryz.prog 164 #[.agg #[x.a.1, x.a.2, .bool x.cf, .bool x.rf], cc, rr] w fun e w' => e = .returned (.tuple #[.agg #[.int .i64 (shR cc rr x).a.1, .int .i64 (shR cc rr x).a.2, .bool (shR cc rr x).cf, .bool (shR cc rr x).rf], .bool (shB cc rr x)]) /\ Xt w w' := by
 obtain ⟨B, hB⟩ := e_ w.heap.size;obtain ⟨w0, hw0⟩ := e_ (w.alloc (.cells #[x.a.1, x.a.2, .bool x.cf, .bool x.rf] 46));have hs0 : w0.heap.size = B + 1 := (by rw [<- hw0, <- hB]; simp);obtain ⟨w1, hw1⟩ := e_ (w0.alloc (.cells #[.int .i64 0, .int .i64 0, .bool false, .bool false] 46));have HX1 : Hid (Xt w w1) := (by unfold Hid; rw [<- hw1, <- hw0]; exact ((Xt.refl w).alloc _).alloc _);have HR0 : Hid (r_ w1 B #[x.a.1, x.a.2, .bool x.cf, .bool x.rf] 46) := rowX (w := w0) (by rw [<- hw1]; exact (Xt.refl _).alloc _) (by rw [<- hw0, <- hB]; exact (a_ w _).1)
 have HR1 : Hid (r_ w1 (B + 1) #[.int .i64 0, .int .i64 0, .bool false, .bool false] 46) := (by unfold Hid; rw [<- hw1, <- hs0]; exact (a_ w0 _).1);have hone : Hid (∀ (A : World) (b o : Nat) (u : Value), w.heap.size <= b -> Xt w A -> Xt w (A.setCell ⟨b, o, none⟩ u)) := h_ fun A b o u hb h => h.grownB (yiv _ _ _ _) (fun q hq => by cases hq; exact hb);have honeR : Hid (∀ (A : World) (b : Nat) (cs : Array Value), w.heap.size <= b -> Xt w A -> Xt w (A.setRow b cs)) := h_ fun A b cs hb h => h.grownB (jGX _ _ _) (fun q hq => by cases hq; exact hb);obtain ⟨b0, b1, b2, b3, f0, f1, _, _⟩ := zUi HR0.out
 obtain ⟨y0, y1, y2, y3, g0, g1, g2, g3⟩ := zUi HR1.out;unfold shR shB;cases hv : y8L x.a.1 x.a.2
 . have HV1 := h_ (zpQ x.a.1 x.a.2 w1);rw [hv] at HV1;simp only [Bool.false_and, Bool.false_eq_true, if_false];clear hv;go_enter Tryz.func164, Tryz.ntmps164;go_wp2_with (first
    | (go_at_call 63; refine (HV1.out).mono ?_; rintro e w2 ⟨rfl, hg2⟩; have HX2 : Hid (Xt w1 w2) := (by unfold Hid; rw [hg2]; exact (Xt.refl _).alloc _); obtain ⟨y0, y1, y2, y3, g0, g1, g2, g3⟩ := zUi (rowX HX2.out HR1.out); clear hg2))
   (try simp only [Exit.inBlock, Exit.then])
   have hrowE : ((((w2.setCell ⟨B + 1, 0, none⟩ (.int .i64 0)).setCell ⟨B + 1, 1, none⟩ (.int .i64 0)).setCell ⟨B + 1, 2, none⟩ (.bool false)).setCell ⟨B + 1, 3, none⟩ (.bool false)).heap[B + 1]? = some (.cells #[.int .i64 0, .int .i64 0, .bool false, .bool false] 46 (0, 0)) := (ysv (ysv (ysv (ysv (rowX HX2.out HR1.out) 0 (.int .i64 0)) 1 (.int .i64 0)) 2 (.bool false)) 3 (.bool false))
   have hxE : Xt w ((((w2.setCell ⟨B + 1, 0, none⟩ (.int .i64 0)).setCell ⟨B + 1, 1, none⟩ (.int .i64 0)).setCell ⟨B + 1, 2, none⟩ (.bool false)).setCell ⟨B + 1, 3, none⟩ (.bool false)) := (hone.out _ (B + 1) 3 (.bool false) (by omega) (hone.out _ (B + 1) 2 (.bool false) (by omega) (hone.out _ (B + 1) 1 (.int .i64 0) (by omega) (hone.out _ (B + 1) 0 (.int .i64 0) (by omega) (HX1.out.trans HX2.out)))));refine p_ (v := .tuple #[.agg #[.int .i64 0, .int .i64 0, .bool false, .bool false], .bool false]) ?_ rfl ?_
   . rw [results_cell_tmp rfl]
     show ((asAddr (v_ (B + 1))).run _ _).andThen _ = _
     simp only [asAddr, Sem.run_pure, Result.andThen_ok, l_ _ _ _ 46 #[.int .i64 0, .int .i64 0, .bool false, .bool false] _ _ hrowE Tryz.underlying46 rfl (by kernel_rfl)];rfl
   . exact ⟨rfl, hxE⟩
 . have HV1 := h_ (zpQ x.a.1 x.a.2 w1);rw [hv] at HV1;obtain ⟨m1, hm1⟩ := e_ (shN x.a.1 cc x.cf);obtain ⟨m2, hm2⟩ := e_ (shN x.a.2 rr x.rf);have HM1 := h_ (fun V => jRb x.a.1 cc x.cf V);have HM2 := h_ (fun V => jRb x.a.2 rr x.rf V);rw [hm1] at HM1;rw [hm2] at HM2;simp only [shA, Bool.true_and, hm1, hm2];obtain ⟨vb, hvb⟩ := e_ (y8L m1 m2);rw [hvb];have HVB := h_ hvb;have hk1 : True := trivial;clear hv hm1 hm2 hvb;go_enter Tryz.func164, Tryz.ntmps164;go_wp2_with (first
    | (go_at_call 63; have hk0 := hk1; clear hk1 hk0; refine (HV1.out).mono ?_; rintro e w2 ⟨rfl, hg2⟩; have HX2 : Hid (Xt w1 w2) := (by unfold Hid; rw [hg2]; exact (Xt.refl _).alloc _); have HRB := h_ (rowX HX2.out HR0.out); clear hg2))
   obtain ⟨z0, z1, z2, z3, f0, f1, _, _⟩ := zUi HRB.out;clear b0 b1 b2 b3 y0 y1 y2 y3 g0 g1 g2 g3;refine wp_region_held_drew (S := fun V => c_ V B 2 x.cf /\ c_ V B 3 x.rf) (by kernel_rfl) ⟨z2, z3⟩ (fun hHeld => ?_);refine tkS 0 ?_;refine tkS 1 ?_;refine tkS 3 ?_;refine tkS 4 ?_;refine tkS 5 ?_;refine tkS 7 ?_;refine tkS 8 ?_;refine tkS 10 ?_;refine tkS 11 ?_;refine tkS 12 ?_
   iterate 4
    all_goals first
     | refine rd2 2 9 (fun K hK => ?_) fun K hK => ?_
     | refine rd2 6 9 (fun K hK => ?_) fun K hK => ?_
     | refine rdH 2 fun K hK => ?_
     | refine rdH 6 fun K hK => ?_
     | refine rdH 9 fun K hK => ?_
     | refine rdH 13 fun K hK => ?_
    all_goals
     go_simp
     first
      | refine (HM1.out _).mono ?_
        rintro e w' ⟨rfl, rfl⟩;clear HM1
      | refine (HM2.out _).mono ?_
        rintro e w' ⟨rfl, rfl⟩
      | skip
     refine ko hK (by assumption) fun hHe => ?_;clear hK K
   all_goals
    refine tkS 14 ?_;refine tkS 15 ?_;refine rdH 16 (fun K hK => ?_);go_simp;refine hK.out _ _ ?_ (fun hHe => ?_)
    . exact ⟨(o_ _ _ _ _ (by simp)).trans ((o_ _ _ _ _ (by simp)).trans z2), (o_ _ _ _ _ (by simp)).trans ((o_ _ _ _ _ (by simp)).trans z3)⟩
    clear hK K;refine z_ (by kernel_rfl) ?_ _;obtain ⟨wS, hwS⟩ := e_ (((w2.setCell ⟨B, 0, none⟩ (.int .i64 m1)).setCell ⟨B, 1, none⟩ (.int .i64 m2)).drew);have HRS : Hid (r_ wS B #[m1, m2, .bool x.cf, .bool x.rf] 46) := (by unfold Hid; rw [<- hwS]; exact ysv (ysv HRB.out 0 _) 1 _);have HRE : Hid (r_ wS (B + 1) #[.int .i64 0, .int .i64 0, .bool false, .bool false] 46) := (by unfold Hid; rw [<- hwS]; exact (s_ _ _ _ _ (by simp)).trans ((s_ _ _ _ _ (by simp)).trans (rowX HX2.out HR1.out)))
    have HXS : Hid (Xt w wS) := (by unfold Hid; rw [<- hwS]; exact (hone.out _ _ _ _ (by omega) (hone.out _ _ _ _ (by omega) (HX1.out.trans HX2.out))).drew);rw [hwS];clear hwS z0 z1 z2 z3 f0 f1;obtain ⟨x0, x1, x2, x3, h0, h1, _, _⟩ := zUi HRS.out;have HV2 := h_ (zpQ m1 m2 wS);rw [HVB.out] at HV2;cases vb
    . try simp only [Bool.false_eq_true, if_false]
      go_wp2_with (first
       | (go_at_call 63; refine (HV2.out).mono ?_; rintro e w3 ⟨rfl, hg3⟩; have HX3 : Hid (Xt wS w3) := (by unfold Hid; rw [hg3]; exact (Xt.refl _).alloc _); obtain ⟨x0, x1, x2, x3, h0, h1, _, _⟩ := zUi (rowX HX3.out HRS.out); obtain ⟨y0, y1, y2, y3, g0, g1, g2, g3⟩ := zUi (rowX HX3.out HRE.out); clear hg3))
      (try simp only [Exit.inBlock, Exit.then])
      have hrowE : ((((w3.setCell ⟨B + 1, 0, none⟩ (.int .i64 0)).setCell ⟨B + 1, 1, none⟩ (.int .i64 0)).setCell ⟨B + 1, 2, none⟩ (.bool false)).setCell ⟨B + 1, 3, none⟩ (.bool false)).heap[B + 1]? = some (.cells #[.int .i64 0, .int .i64 0, .bool false, .bool false] 46 (0, 0)) := (ysv (ysv (ysv (ysv (rowX HX3.out HRE.out) 0 (.int .i64 0)) 1 (.int .i64 0)) 2 (.bool false)) 3 (.bool false))
      have hxE : Xt w ((((w3.setCell ⟨B + 1, 0, none⟩ (.int .i64 0)).setCell ⟨B + 1, 1, none⟩ (.int .i64 0)).setCell ⟨B + 1, 2, none⟩ (.bool false)).setCell ⟨B + 1, 3, none⟩ (.bool false)) := (hone.out _ (B + 1) 3 (.bool false) (by omega) (hone.out _ (B + 1) 2 (.bool false) (by omega) (hone.out _ (B + 1) 1 (.int .i64 0) (by omega) (hone.out _ (B + 1) 0 (.int .i64 0) (by omega) (HXS.out.trans HX3.out)))));refine p_ (v := .tuple #[.agg #[.int .i64 0, .int .i64 0, .bool false, .bool false], .bool false]) ?_ rfl ?_
      . rw [results_cell_tmp rfl]
        show ((asAddr (v_ (B + 1))).run _ _).andThen _ = _
        simp only [asAddr, Sem.run_pure, Result.andThen_ok, l_ _ _ _ 46 #[.int .i64 0, .int .i64 0, .bool false, .bool false] _ _ hrowE Tryz.underlying46 rfl (by kernel_rfl)];rfl
      . exact ⟨rfl, hxE⟩
    . try simp only [if_true]
      go_wp2_with (first
       | (go_at_call 63; refine (HV2.out).mono ?_; rintro e w3 ⟨rfl, hg3⟩; have HX3 : Hid (Xt wS w3) := (by unfold Hid; rw [hg3]; exact (Xt.refl _).alloc _); obtain ⟨x0, x1, x2, x3, h0, h1, _, _⟩ := zUi (rowX HX3.out HRS.out); obtain ⟨y0, y1, y2, y3, g0, g1, g2, g3⟩ := zUi (rowX HX3.out HRE.out); clear hg3))
      (try simp only [Exit.inBlock, Exit.then])
      have hrowE : ((((w3.setCell ⟨B + 1, 0, none⟩ (.int .i64 m1)).setCell ⟨B + 1, 1, none⟩ (.int .i64 m2)).setCell ⟨B + 1, 2, none⟩ (.bool x.cf)).setCell ⟨B + 1, 3, none⟩ (.bool x.rf)).heap[B + 1]? = some (.cells #[m1, m2, .bool x.cf, .bool x.rf] 46 (0, 0)) := (ysv (ysv (ysv (ysv (rowX HX3.out HRE.out) 0 (.int .i64 m1)) 1 (.int .i64 m2)) 2 (.bool x.cf)) 3 (.bool x.rf))
      have hxE : Xt w ((((w3.setCell ⟨B + 1, 0, none⟩ (.int .i64 m1)).setCell ⟨B + 1, 1, none⟩ (.int .i64 m2)).setCell ⟨B + 1, 2, none⟩ (.bool x.cf)).setCell ⟨B + 1, 3, none⟩ (.bool x.rf)) := (hone.out _ (B + 1) 3 (.bool x.rf) (by omega) (hone.out _ (B + 1) 2 (.bool x.cf) (by omega) (hone.out _ (B + 1) 1 (.int .i64 m2) (by omega) (hone.out _ (B + 1) 0 (.int .i64 m1) (by omega) (HXS.out.trans HX3.out)))));refine p_ (v := .tuple #[.agg #[m1, m2, .bool x.cf, .bool x.rf], .bool true]) ?_ rfl ?_
      . rw [results_cell_tmp rfl]
        show ((asAddr (v_ (B + 1))).run _ _).andThen _ = _
        simp only [asAddr, Sem.run_pure, Result.andThen_ok, l_ _ _ _ 46 #[.int .i64 m1, .int .i64 m2, .bool x.cf, .bool x.rf] _ _ hrowE Tryz.underlying46 rfl (by kernel_rfl)];rfl
      . exact ⟨rfl, hxE⟩
end
section
open Go.RowKit Go.Sort
theorem zbI (w : World) : Calls Tryz.prog 129 #[] w fun e w' => e = .returned (jSk lostT none 0 0) /\ Gr w w' := by
 go_enter Tryz.func129, Tryz.ntmps129;go_wp2
 (try simp only [Exit.inBlock, Exit.then])
 refine p_ (t_ rfl _ _ w.heap.size _ _ _ _ rfl (heap_alloc_new _ _) Tryz.underlying49 rfl (by kernel_rfl)) rfl ?_;exact ⟨rfl, (Gr.refl _).alloc _⟩
theorem yZ6 {a b : Int} (h : y8L a b = true) : 1 <= a /\ a <= 256 /\ 1 <= b /\ b <= 4096 := by
 unfold y8L at h;simp at h;omega
mutual
def okVs : NodeT -> Prop
 | .mk k _ _ _ _ _ r q l => ((k = 5 -> y8L r.a.1 r.a.2 = true) /\ (k = 6 -> y8L r.a.1 r.a.2 = true /\ y8L q.a.1 q.a.2 = true /\ r.a.1 <= q.a.1 /\ r.a.2 <= q.a.2)) /\ okVL l
def okVL : List NodeT -> Prop
 | [] => True
 | t :: l => okVs t /\ okVL l
end
theorem jrB : ∀ {l : List NodeT} {i : Nat} {x : NodeT}, okVL l -> l[i]? = some x -> okVs x
 | [], _, _, _, h => by simp at h
 | t :: l, 0, _, h, hx => by simp at hx; subst hx; exact h.1
 | t :: l, i + 1, _, h, hx => by simp at hx; exact jrB h.2 hx
theorem yRe {t : NodeT} (h : okVs t) : okVL t.args := by obtain ⟨k, o, x, s, b, f, r, q, l⟩ := t; exact h.2
mutual
theorem zNY : ∀ (t : NodeT) (ins : Bool), yG3 t ins = 0 -> okVs t
 | .mk k o x s b f r q l, ins, h => by
  rw [yG3] at h;by_cases hm : zGb (.mk k o x s b f r q l) = true
  . rw [if_pos hm] at h;by_cases h5 : k = 5
    . subst h5;rw [if_pos (by rfl)] at h;split at h
      . rename_i hv; exact ⟨⟨fun _ => hv, fun e => by omega⟩, yoZ l _ h⟩
      . omega
    . rw [if_neg (by simpa using h5)] at h;by_cases h6 : k = 6
      . subst h6;rw [if_pos (by rfl)] at h;split at h
        . rename_i hv;simp only [Bool.and_eq_true, decide_eq_true_eq] at hv;refine ⟨⟨fun e => by omega, fun _ => ⟨hv.1.1.1, hv.1.1.2, hv.1.2, hv.2⟩⟩, ?_⟩;split at h
          . exact yoZ l _ h
          . omega
        . omega
      . rw [if_neg (by simpa using h6)] at h;refine ⟨⟨fun e => absurd e h5, fun e => absurd e h6⟩, ?_⟩;split at h
        . split at h
          . split at h
            . omega
            . split at h
              . omega
              . exact yoZ l _ h
          . omega
        . exact yoZ l _ h
  . rw [if_neg hm] at h; omega
theorem yoZ : ∀ (l : List NodeT) (c : Bool), ziB l c = 0 -> okVL l
 | [], _, _ => trivial
 | t :: l, c, h => by
  rw [ziB] at h;split at h
  . rename_i e; exact ⟨zNY t c e, yoZ l c h⟩
  . rename_i e; exact absurd h e
end
theorem jTZ {w ws wr w6 : World} {O M n i : Nat} {g : NodeT -> NodeT} {t2 x : NodeT} {l : List NodeT} {va a' : Option Addr} {vn vc c' : Nat} (h : GSt w ws O M g n t2 l wr i va vn vc) (hx : l[i]? = some x) (hl : l.length <= 1099511627744) (h6 : Xt wr w6) (wA : World)
    (hwA : w6.alloc (.cells (rN (g x) (.slice a' (g x).args.length c')) 49) = wA)
    {va' : Option Addr} {vn' vc' : Nat} {w7 : World} (hpush : (Builtin.append_ #[47, 47] 47 #[.slice va vn vc, .slice (some ⟨w6.heap.size, 0, none⟩) 1 1]).run Tryz.prog wA = .ok (.slice va' vn' vc') w7) (o : Nat) : w7.frozen? ⟨O, o, none⟩ = wr.frozen? ⟨O, o, none⟩ := by
 obtain ⟨i0, hi, hz0, hz1, hz2⟩ := info_parts jGd;obtain ⟨⟨hO1, hO2, hM, hMr⟩, hbox, hf14, hnone, hob, ⟨R, hown, hRf, hRa⟩, hkeep, hxt⟩ := h;have hil : i < l.length := (List.getElem?_eq_some_iff.1 hx).1;have hBr : O < wr.heap.size := (by omega);have hxtA : Xt wr wA := (by rw [<- hwA]; exact h6.alloc _);have hownA : wA.ownsRow 0 49 15 (.slice va vn vc) i (R.flatMap rowC) :=
  World.ownsRow.kept hown (row := none) ⟨hxtA.os, hxtA.tape, hxtA.output, hxtA.size, fun k hk _ => hxtA.block k hk⟩ (by
   cases (Value.slice va vn vc).ownBlock with
   | none => exact Or.inl rfl
   | some q => exact Or.inr (by simp))
 have hnews : ∀ (j : Nat) (u : Value), (nodeC (g x) (.slice a' (g x).args.length c'))[j]? = some u -> wA.cell? ((⟨w6.heap.size, 0, none⟩ : Addr).add j) = some u := by
  rw [<- hwA];exact yVA w6 (nodeC (g x) (.slice a' (g x).args.length c')) 49 (b := w6.heap.size) rfl
 have hRl : R.length = i := GSt.lenR hRf (by omega);obtain ⟨v', w7', hpush', hown7, hg7, hwh⟩ := jrS (P := Tryz.prog) wA 47 47 49 i0 _ 15 128 Tryz.underlying47 hi hz0 hz1 hz2 rfl (by decide) (.slice va vn vc) i (R.flatMap rowC) hownA ⟨w6.heap.size, 0, none⟩ 1 1 (nodeC (g x) (.slice a' (g x).args.length c')) rfl hnews (jrw _ _ rfl) (by unfold maxLen; omega) (by omega);have he := hpush'.symm.trans hpush;simp only [Result.ok.injEq] at he;obtain ⟨_, rfl⟩ := he;have hn0 : (Value.slice va vn vc).ownBlock ≠ some O := fun e => by have := hob _ e; omega
 exact (f_ (w := wr) (a := ⟨O, o, none⟩) ((hg7.block O (by have := hxtA.size; omega) (fun e => hn0 e.symm)).trans (hxtA.block O hBr)))
theorem NodeAt.cellsF {w : World} {b o : Nat} {t : NodeT} {a : Option Addr} {n c : Nat} (h : NodeAt w b o t a n c) : ∀ (i : Nat) (u : Value), (nodeC t (.slice a n c))[i]? = some u -> w.cell? ⟨b, o + i, none⟩ = some u := by
 intro i u hu;have hi : i < 15 := (List.getElem?_eq_some_iff.1 hu).1;rcases i with _ | _ | _ | _ | _ | _ | _ | _ | _ | _ | _ | _ | _ | _ | _ | i
 . simp only [nodeC, List.getElem?_cons_zero, Option.some.injEq] at hu; subst hu; exact h.c0
 . simp only [nodeC, List.getElem?_cons_zero, List.getElem?_cons_succ, Option.some.injEq] at hu; subst hu; exact h.c1
 . simp only [nodeC, List.getElem?_cons_zero, List.getElem?_cons_succ, Option.some.injEq] at hu; subst hu; exact h.c2
 . simp only [nodeC, List.getElem?_cons_zero, List.getElem?_cons_succ, Option.some.injEq] at hu; subst hu; exact h.c3
 . simp only [nodeC, List.getElem?_cons_zero, List.getElem?_cons_succ, Option.some.injEq] at hu; subst hu; exact h.c4
 . simp only [nodeC, List.getElem?_cons_zero, List.getElem?_cons_succ, Option.some.injEq] at hu; subst hu; exact h.c5
 . simp only [nodeC, List.getElem?_cons_zero, List.getElem?_cons_succ, Option.some.injEq] at hu; subst hu; exact h.c6
 . simp only [nodeC, List.getElem?_cons_zero, List.getElem?_cons_succ, Option.some.injEq] at hu; subst hu; exact h.c7
 . simp only [nodeC, List.getElem?_cons_zero, List.getElem?_cons_succ, Option.some.injEq] at hu; subst hu; exact h.c8
 . simp only [nodeC, List.getElem?_cons_zero, List.getElem?_cons_succ, Option.some.injEq] at hu; subst hu; exact h.c9
 . simp only [nodeC, List.getElem?_cons_zero, List.getElem?_cons_succ, Option.some.injEq] at hu; subst hu; exact h.c10
 . simp only [nodeC, List.getElem?_cons_zero, List.getElem?_cons_succ, Option.some.injEq] at hu; subst hu; exact h.c11
 . simp only [nodeC, List.getElem?_cons_zero, List.getElem?_cons_succ, Option.some.injEq] at hu; subst hu; exact h.c12
 . simp only [nodeC, List.getElem?_cons_zero, List.getElem?_cons_succ, Option.some.injEq] at hu; subst hu; exact h.c13
 . simp only [nodeC, List.getElem?_cons_zero, List.getElem?_cons_succ, Option.some.injEq] at hu; subst hu; exact h.c14
 . omega
theorem juC {w : World} {O : Nat} {t t' : NodeT} {a : Option Addr} {n c : Nat} (h : NodeAt w O 0 t a n c) (j : Nat) (v : Value) (hj : j < 15) (hc : nodeC t' (.slice a n c) = (nodeC t (.slice a n c)).set j v) : NodeAt (w.setCell ⟨O, j, none⟩ v) O 0 t' a n c := by
 refine NodeAt.of fun i u hu => ?_;rw [hc, List.getElem?_set] at hu;by_cases e : j = i
 . subst e;rw [if_pos rfl, if_pos (by show j < 15; exact hj)] at hu;cases hu;rw [Nat.zero_add];obtain ⟨y, hy⟩ : ∃ y, (nodeC t (.slice a n c))[j]? = some y := ⟨_, j_ (by show j < 15; exact hj)⟩;have := h.cellsF j y hy;rw [Nat.zero_add] at this;exact k_ w _ _ this
 . rw [if_neg e] at hu;have h2 := h.cellsF i u hu;exact (o_ w _ _ _ (by first | (simp; done) | (simp; omega))).trans h2
theorem OwnIn.nilN {S : Nat -> Prop} {w : World} : ∀ n, OwnIn S w n (.slice none 0 0) []
 | 0 => ⟨rfl, none, rfl⟩
 | _ + 1 => ⟨none, 0, rfl, Nat.le_refl _, by omega, fun h => absurd h (Nat.lt_irrefl _)⟩
theorem Xt.trans' {w wr W : World} {O : Nat} (h : Xt w wr) (k : Wr (fun b => b = O) wr W) (hO : w.heap.size <= O) : Xt w W := k.xt h (fun b hb => by omega)
def jxG (cols : Bool) (m : Nat) (a0 cnt : Int) (g n : Nat) : Prop := ∀ (t : NodeT) (a : Option Addr) (cap : Nat) (w : World), yQE t -> ArgsIn w n (.slice a t.args.length cap) t.args -> okVs t -> RowL w g 3 (m + 1) 1 intC (jpe m a0 cnt) ->
    Calls Tryz.prog 88 #[jSk t a t.args.length cap, .bool cols, .slice (some ⟨g, 0, none⟩) (m + 1) (m + 1)] w fun e w' => ∃ a' c', e = .returned (jSk (jNY (z7H cols ⟨a0, cnt, m⟩) (zi9 cols ⟨a0, cnt, m⟩) t) a' (jNY (z7H cols ⟨a0, cnt, m⟩) (zi9 cols ⟨a0, cnt, m⟩) t).args.length c') /\ OwnIn (fun b => w.heap.size <= b) w' n (.slice a' (jNY (z7H cols ⟨a0, cnt, m⟩) (zi9 cols ⟨a0, cnt, m⟩) t).args.length c') (jNY (z7H cols ⟨a0, cnt, m⟩) (zi9 cols ⟨a0, cnt, m⟩) t).args /\ Xt w w'
theorem zKv (cols : Bool) (m : Nat) (a0 cnt : Int) (hm : m <= 4096) (hmI : (m : Int) = zuS cols) (ha0 : 1 <= a0 /\ a0 <= m) (hcnt : -(m : Int) <= cnt /\ cnt <= m) (g : Nat) : ∀ n, jxG cols m a0 cnt g n := by
 intro n
 induction n using Nat.strongRecOn with
 | ind n ih =>
  intro t a cap w hsm hin hok hrow;have HOK := h_ hok;have HROW := h_ hrow;have HCNT := h_ hcnt;have HA0 := h_ ha0;have HMI := h_ hmI;have hgw : g < w.heap.size := (by obtain ⟨cur, hc, _⟩ := hrow; exact (g_ hc).1);obtain ⟨gT, hgT⟩ : ∃ gT : NodeT -> NodeT, jNY (z7H cols ⟨a0, cnt, m⟩) (zi9 cols ⟨a0, cnt, m⟩) = gT := ⟨_, rfl⟩;have HGT := h_ hgT;have HTE : Hid (∀ t, gT t = yip (z7H cols ⟨a0, cnt, m⟩) (zi9 cols ⟨a0, cnt, m⟩) (y43 t (t.args.map gT))) := (by unfold Hid; rw [<- hgT]; exact jlI _ _);simp only [jxG] at ih;rw [hgT] at ih ⊢;have IH := h_ ih;have HSM := h_ hsm;have HIN := h_ hin
  obtain ⟨_, _, he, q1, q2⟩ := hin.shape;cases he;obtain ⟨w0, hw0, hg0, hs0, hN⟩ := boxN w t a t.args.length cap 49;have HN := h_ hN;obtain ⟨c0, c1, c2, c3, c4, c5, c6, c7, c8, c9, c10, c11, c12, c13, c14⟩ := hN;simp only [Nat.zero_add] at c0 c1 c2 c3 c4 c5 c6 c7 c8 c9 c10 c11 c12 c13 c14;have HG0 := h_ hg0;clear hg0 hin ih hsm hok hrow hcnt ha0 hmI hgT;go_enter Tryz.func88, Tryz.ntmps88;go_wp2_with fail;obtain ⟨wZ, hwZ⟩ := e_ (w0.alloc (.cells zN 49));rw [hwZ]
  have hsZ : wZ.heap.size = w.heap.size + 1 + 1 := (by rw [<- hwZ]; simp [hs0]);obtain ⟨wS, hwS⟩ := e_ (wZ.alloc (.cells (rN t (.slice none 0 0)) 49));rw [hwS];have hsS : wS.heap.size = w.heap.size + 1 + 1 + 1 := (by rw [<- hwS]; simp [hsZ]);have hxZ : Xt w wZ := (by rw [<- hwZ]; exact HG0.out.xt.alloc _);have hxS : Xt w wS := by rw [<- hwS]; exact hxZ.alloc _
  have hrZ : wS.heap[w.heap.size + 1]? = some (.cells zN 49 (0, 0)) := by
   rw [<- hwS];refine (Below.heap_alloc wZ _ _ (by omega)).trans ?_;rw [<- hwZ, <- hs0]; exact (a_ w0 _).1
  have hNS : NodeAt wS w.heap.size 0 t a t.args.length cap := by
   rw [<- hwS, <- hwZ]; exact (HN.out.xt ((Xt.refl w0).alloc _)).xt ((Xt.refl _).alloc _)
  have hOS : NodeAt wS (w.heap.size + 1 + 1) 0 t none 0 0 := by
   rw [<- hwS, <- hsZ];refine ⟨?_, ?_, ?_, ?_, ?_, ?_, ?_, ?_, ?_, ?_, ?_, ?_, ?_, ?_, ?_⟩ <;> (rw [World.cell?_alloc_new]; rfl)
  have HFZ : Hid (∀ o, wS.frozen? ⟨w.heap.size + 1 + 1, o, none⟩ = false) := h_ fun o => by rw [<- hwS, <- hsZ]; simp
  have hfS : wS.frozen? ⟨w.heap.size + 1 + 1, 14, none⟩ = false := HFZ.out 14;have HST : Hid (GSt w wS (w.heap.size + 1 + 1) wS.heap.size gT n t t.args wS 0 none 0 0) := yZg gT n t.args (by omega) (by omega) hOS hfS hxS;have HNS := h_ hNS;have HRZ := h_ hrZ;clear hwS hwZ hw0 hs0 hsZ hxZ hxS hrZ hNS hOS hfS HG0 HN c0 c1 c2 c3 c4 c5 c6 c7 c8 c9 c10 c11 c12 c13 c14
  go_loopw [8] (fun s4 wr => ∃ (i : Nat) (va : Option Addr) (vn vc : Nat), i <= t.args.length /\ s4 = .int .i64 i /\ Hid (GSt w wS (w.heap.size + 1 + 1) wS.heap.size gT n t t.args wr i va vn vc) /\ Hid (∀ o, wr.frozen? ⟨w.heap.size + 1 + 1, o, none⟩ = false)) (fun s4 _ => t.args.length - (intOf s4).toNat)
  case atStart => exact ⟨0, none, 0, 0, Nat.zero_le _, rfl, HST, HFZ⟩
  case round =>
   clear HST HFZ;obtain ⟨i, va, vn, vc, hi, rfl, HS, HFR⟩ := hrel;have hNr : NodeAt wr w.heap.size 0 t a t.args.length cap := HNS.out.keep (fun o => d_ (w := wS) (a := ⟨w.heap.size, o, none⟩) (HS.out.keep w.heap.size (by omega) (by omega)));have hN14 := hNr.c14;rw [Nat.zero_add] at hN14;by_cases hlt : i < t.args.length
   . obtain ⟨x, hx⟩ : ∃ x, t.args[i]? = some x := ⟨t.args[i], by simp [hlt]⟩;obtain ⟨n', b, off, xa, xc, hn', rfl, hNx0, hA⟩ := HIN.out.at hx;have hbl : b < w.heap.size := b_ w _ hNx0.c0;have hNx := hNx0.xt HS.out.xt;have hki : (i : Int) < (t.args.length : Int) := (by omega);have hO14 := HS.out.box.c14;rw [Nat.zero_add] at hO14;have hsmx : yQE x := z8y (zB1 HSM.out).2 hx;have hlen : t.args.length <= 1099511627744 := (zB1 HSM.out).1;have HC := h_ (IH.out n' (by omega) x xa xc wr.drew hsmx ((hA.xt HS.out.xt).xt (Xt.refl wr).drew) (jrB (yRe HOK.out) hx) (HROW.out.of_heap (HS.out.xt.block g hgw)));clear hNx0 hA hNr;go_wp2_with fail
     refine wp_region_held_drew (S := fun w' => c_ w' w.heap.size 14 (.slice (some ⟨b, off, none⟩) t.args.length cap) /\ NodeAt w' b (off + i * 15) x xa x.args.length xc) (by kernel_rfl) ⟨hN14, hNx.xt (Xt.refl wr).drew⟩ (fun hHeld => ?_);refine tkN 0 ?_;refine tkN 2 ?_;refine tk (fun w hSw => hSw.1) 3 ?_;refine tkN 4 ?_;refine tkN 5 ?_;refine tkH 6 ?_ ?_ ?_;rotate_left
     . intro w hSw; (try dsimp only at hSw); obtain ⟨e0, e1, e2, e3, e4, e5, e6, e7, e8, e9, e10, e11, e12, e13, e14⟩ := hSw.2; go_simp; first | done | with_reducible rfl
     try simp only [Act.put, nm]
     refine tkN 7 ?_;refine tkN 8 ?_
     iterate 3
      all_goals first
       | refine rd2 1 9 (fun K hK => ?_) fun K hK => ?_
       | refine rd2 1 10 (fun K hK => ?_) fun K hK => ?_
       | refine rdH 9 fun K hK => ?_
       | refine rdH 10 fun K hK => ?_
       | refine rdH 1 fun K hK => ?_
      all_goals
       go_simp
       first
        | refine ko hK hHeld fun hHeld3 => ?_
        | refine (HC.out).mono ?_
          rintro e w6 ⟨a', c', rfl, hAS, h6⟩;obtain ⟨wA, hwA, va', vn', vc', w7, hpush, g6, gA, g7, f7, HS6, HSA, HS7, HS8, HEND⟩ := jvz (t := t) hn' HS.out hx hlen hN14 hNx hbl hAS h6;have HFE : Hid (∀ o, (w7.setCell ⟨w.heap.size + 1 + 1, 14, none⟩ (.slice va' vn' vc')).frozen? ⟨w.heap.size + 1 + 1, o, none⟩ = false) := h_ fun o => by rw [World.frozen?_setCell]; exact (jTZ HS.out hx hlen ((Xt.refl wr).drew.trans h6) wA hwA hpush o).trans (HFR.out o)
          refine ko hK HS6.out fun hHeld3 => ?_
        | refine ko hK HS6.out fun hHeld3 => ?_
        | refine ko hK HSA.out fun hHeld3 => ?_
       clear hK K
     all_goals
      refine rdH 11 (fun K hK => ?_);rw [if_pos (by rfl)];refine zBT _ _ 47 rfl _ _ rfl rfl hpush ?_;refine ko hK HS7.out fun hHeld4 => ?_;clear hK K;refine tkN 12 ?_;refine rdH 13 (fun K hK => ?_);go_simp;refine hK.out _ _ HS8.out (fun hHeld5 => ?_);clear hK K;refine z_ (by kernel_rfl) ?_ _;go_wp2_with fail;go_roundw
      case rel => exact ⟨i + 1, va', vn', vc', by omega, by go_num, HEND, HFE⟩
      case measure => simp [intOf]; omega
   . obtain rfl : i = t.args.length := by omega
     have hres := (HS.out.keep (w.heap.size + 1) (by omega) (by omega)).trans HRZ.out;obtain ⟨e1, e2, e3, hend⟩ := zPC (w' := wr) HS.out (fun _ _ _ => rfl);subst e1;have HEND := h_ (hend vc (Or.inl rfl));have HBOX := h_ HS.out.box;have HXR := h_ HS.out.xt;have hlo := HS.out.lo;have HRES := h_ hres;have HTT := h_ (HTE.out t);have HOV := h_ HOK.out;have HRT := h_ (HROW.out.of_heap (HS.out.xt.block g hgw));clear hend hN14 HTE HS HIN IH HSM HROW HOK;obtain ⟨k, o, x, s, bb, f, ⟨⟨r1, r2⟩, rc, rr⟩, ⟨⟨y1, y2⟩, qc, qr⟩, l⟩ := t;simp only [NodeT.args] at HEND HBOX hNr HTT hi hlt ⊢;obtain ⟨b0, b1, b2, b3, b4, b5, b6, b7, b8, b9, b10, b11, b12, b13, b14⟩ := hNr
     simp only [Nat.zero_add, NodeT.kind, NodeT.op, NodeT.x, NodeT.s, NodeT.b, NodeT.f, NodeT.ref, NodeT.to] at b0 b1 b2 b3 b4 b5 b6 b7 b8 b9 b10 b11 b12 b13 b14;clear b1 b2 b3 b4 b5 b8 b9 b12 b13 HGT HNS;obtain ⟨O, hO⟩ := e_ (w.heap.size + 1 + 1);rw [hO] at HBOX HFR hlo ⊢;obtain ⟨R, hR⟩ := e_ (w.heap.size + 1);rw [hR] at HRES ⊢;have hRO : R ≠ O := (by omega);have HSZ : Hid (w.heap.size + 1 = R /\ w.heap.size + 1 + 1 = O) := ⟨hR, hO⟩;clear hR hO;by_cases h5 : k = 5
     . subst h5;have v1 := yZ6 (HOV.out.1.1 rfl);simp only at v1;cases cols
       . have hmv : (m : Int) = 4096 := HMI.out;obtain ⟨l1, l2⟩ := j5u hm HA0.out HCNT.out (k := r2) ⟨by omega, by omega⟩;obtain ⟨j, hj, hjm, hc⟩ := jIK HRT.out (k := r2) (by omega) (by omega);obtain ⟨v, hv⟩ := e_ (yMh m a0 cnt r2);rw [hv] at l1 l2 hc;obtain ⟨z, hz⟩ := e_ (jLa ⟨a0, cnt, m⟩ r2);rw [hz] at l1 l2;have oX := HBOX.out.c7;rw [Nat.zero_add] at oX;have fz := HFR.out 7;have HZZ := h_ hz;have HL12 : Hid (z.2 = decide (0 < v) /\ (z.2 = true -> z.1 = v)) := ⟨l1, l2⟩;clear hv hz l1 l2 hmv;subst hj;obtain ⟨W, hW⟩ := e_ ((wr).setCell ⟨O, 7, none⟩ (.int .i64 (v)))
         have HRNG : Hid (W.rangeAt O 0 (nodeC (.mk 5 o x s bb f ⟨(r1, v), rc, rr⟩ ⟨(y1, y2), qc, qr⟩ l) (.slice va l.length vc))) := (by unfold Hid; rw [<- hW]; exact NodeAt.cellsF (juC (t' := (.mk 5 o x s bb f ⟨(r1, v), rc, rr⟩ ⟨(y1, y2), qc, qr⟩ l)) HBOX.out 7 (.int .i64 (v)) (by omega) rfl));have HWW : Hid (Wr (fun b => b = O) wr W) := by unfold Hid; rw [<- hW]; exact ((Wr.refl (fun b => b = O) wr).trans (Wr.cell (S := fun b => b = O) _ rfl))
         have HRR : Hid (r_ W R zN 49) := (HWW.out.block R (g_ HRES.out).1 hRO).trans HRES.out;have oW : W.cell? ⟨O, 7, none⟩ = some (.int .i64 v) := (by rw [<- hW]; exact k_ wr _ _ oX);by_cases hv0 : 0 < v
         . go_wp2_with (first
            | (rw [hW])
            | (refine u_ (P := Tryz.prog) rfl 49 _ rfl O 0 rfl (nodeC (.mk 5 o x s bb f ⟨(r1, v), rc, rr⟩ ⟨(y1, y2), qc, qr⟩ l) (.slice va l.length vc)) _ HRNG.out Tryz.underlying49 rfl (by kernel_rfl) ?_)
            | (refine w_ (P := Tryz.prog) rfl 49 _ _ rfl R (nodeC (.mk 5 o x s bb f ⟨(r1, v), rc, rr⟩ ⟨(y1, y2), qc, qr⟩ l) (.slice va l.length vc)).toArray rfl rfl 49 _ HRR.out (by kernel_rfl) (by kernel_rfl) (n_ (jrw _ _ rfl)) ?_))
           (try simp only [Exit.inBlock, Exit.then])
           refine p_ (v := .agg (nodeC (.mk 5 o x s bb f ⟨(r1, v), rc, rr⟩ ⟨(y1, y2), qc, qr⟩ l) (.slice va l.length vc)).toArray) (t_ rfl _ _ R 49 _ (0, 0) _ rfl (setRow_heap _ _ _ _ _ _ HRR.out) Tryz.underlying49 rfl (by kernel_rfl)) rfl ?_;have hTT : gT (.mk 5 o x s bb f ⟨(r1, (j : Int)), rc, rr⟩ ⟨(y1, y2), qc, qr⟩ l) = (.mk 5 o x s bb f ⟨(r1, v), rc, rr⟩ ⟨(y1, y2), qc, qr⟩ (l.map gT)) := (by rw [HTT.out]; have hb : z.2 = true := (by rw [HL12.out.1]; simpa using hv0); simp [yip, y43, z7H, HZZ.out, hb, HL12.out.2 hb]);rw [hTT];have hsz := HSZ.out
           refine ⟨va, vc, ?_, ?_, (HXR.out.trans' HWW.out (by omega)).grownB (jGX _ _ _) (fun q hq => by cases hq; omega)⟩
           . simp [nodeC, NodeT.args, NodeT.kind, NodeT.op, NodeT.x, NodeT.s, NodeT.b, NodeT.f, NodeT.ref, NodeT.to]
           . have := HEND.out.keep (S' := fun b => w.heap.size <= b) (w' := (W).setRow R (nodeC (.mk 5 o x s bb f ⟨(r1, v), rc, rr⟩ ⟨(y1, y2), qc, qr⟩ l) (.slice va l.length vc)).toArray) (fun b hb _ => by omega) (fun b hb hlt => (setRow_other _ _ _ _ (by omega)).trans (HWW.out.block b hlt (by omega)));simpa only [NodeT.args, List.length_map] using this
         . go_wp2_with (first
            | (rw [hW])
            | (go_at_call 129; refine (zbI _).mono ?_; rintro e w3 ⟨rfl, hg3⟩; have HWW : Hid (Wr (fun b => b = O) wr w3) := h_ (HWW.out.trans (Wr.of_xt hg3.xt)); have HRR := h_ (rowX hg3.xt HRR.out); clear hg3)
            | (refine w_ (P := Tryz.prog) rfl 49 _ _ rfl R (nodeC lostT (.slice none 0 0)).toArray rfl rfl 49 _ HRR.out (by kernel_rfl) (by kernel_rfl) (n_ (jrw lostT (.slice none 0 0) rfl)) ?_))
           (try simp only [Exit.inBlock, Exit.then])
           refine p_ (v := .agg (nodeC lostT (.slice none 0 0)).toArray) (t_ rfl _ _ R 49 _ (0, 0) _ rfl (setRow_heap _ _ _ _ _ _ HRR.out) Tryz.underlying49 rfl (by kernel_rfl)) rfl ?_;have hTT : gT (.mk 5 o x s bb f ⟨(r1, (j : Int)), rc, rr⟩ ⟨(y1, y2), qc, qr⟩ l) = lostT := (by rw [HTT.out]; have hb : z.2 = false := (by rw [HL12.out.1]; simpa using hv0); simp [yip, y43, z7H, HZZ.out, hb]);rw [hTT];have hsz := HSZ.out;exact ⟨none, 0, rfl, OwnIn.nilN n, (HXR.out.trans' HWW.out (by omega)).grownB (jGX _ _ _) (fun q hq => by cases hq; omega)⟩
       . have hmv : (m : Int) = 256 := HMI.out;obtain ⟨l1, l2⟩ := j5u hm HA0.out HCNT.out (k := r1) ⟨by omega, by omega⟩;obtain ⟨j, hj, hjm, hc⟩ := jIK HRT.out (k := r1) (by omega) (by omega);obtain ⟨v, hv⟩ := e_ (yMh m a0 cnt r1);rw [hv] at l1 l2 hc;obtain ⟨z, hz⟩ := e_ (jLa ⟨a0, cnt, m⟩ r1);rw [hz] at l1 l2;have oX := HBOX.out.c6;rw [Nat.zero_add] at oX;have fz := HFR.out 6;have HZZ := h_ hz;have HL12 : Hid (z.2 = decide (0 < v) /\ (z.2 = true -> z.1 = v)) := ⟨l1, l2⟩;clear hv hz l1 l2 hmv;subst hj;obtain ⟨W, hW⟩ := e_ ((wr).setCell ⟨O, 6, none⟩ (.int .i64 (v)))
         have HRNG : Hid (W.rangeAt O 0 (nodeC (.mk 5 o x s bb f ⟨(v, r2), rc, rr⟩ ⟨(y1, y2), qc, qr⟩ l) (.slice va l.length vc))) := (by unfold Hid; rw [<- hW]; exact NodeAt.cellsF (juC (t' := (.mk 5 o x s bb f ⟨(v, r2), rc, rr⟩ ⟨(y1, y2), qc, qr⟩ l)) HBOX.out 6 (.int .i64 (v)) (by omega) rfl));have HWW : Hid (Wr (fun b => b = O) wr W) := by unfold Hid; rw [<- hW]; exact ((Wr.refl (fun b => b = O) wr).trans (Wr.cell (S := fun b => b = O) _ rfl))
         have HRR : Hid (r_ W R zN 49) := (HWW.out.block R (g_ HRES.out).1 hRO).trans HRES.out;have oW : W.cell? ⟨O, 6, none⟩ = some (.int .i64 v) := (by rw [<- hW]; exact k_ wr _ _ oX);by_cases hv0 : 0 < v
         . go_wp2_with (first
            | (rw [hW])
            | (refine u_ (P := Tryz.prog) rfl 49 _ rfl O 0 rfl (nodeC (.mk 5 o x s bb f ⟨(v, r2), rc, rr⟩ ⟨(y1, y2), qc, qr⟩ l) (.slice va l.length vc)) _ HRNG.out Tryz.underlying49 rfl (by kernel_rfl) ?_)
            | (refine w_ (P := Tryz.prog) rfl 49 _ _ rfl R (nodeC (.mk 5 o x s bb f ⟨(v, r2), rc, rr⟩ ⟨(y1, y2), qc, qr⟩ l) (.slice va l.length vc)).toArray rfl rfl 49 _ HRR.out (by kernel_rfl) (by kernel_rfl) (n_ (jrw _ _ rfl)) ?_))
           (try simp only [Exit.inBlock, Exit.then])
           refine p_ (v := .agg (nodeC (.mk 5 o x s bb f ⟨(v, r2), rc, rr⟩ ⟨(y1, y2), qc, qr⟩ l) (.slice va l.length vc)).toArray) (t_ rfl _ _ R 49 _ (0, 0) _ rfl (setRow_heap _ _ _ _ _ _ HRR.out) Tryz.underlying49 rfl (by kernel_rfl)) rfl ?_;have hTT : gT (.mk 5 o x s bb f ⟨((j : Int), r2), rc, rr⟩ ⟨(y1, y2), qc, qr⟩ l) = (.mk 5 o x s bb f ⟨(v, r2), rc, rr⟩ ⟨(y1, y2), qc, qr⟩ (l.map gT)) := (by rw [HTT.out]; have hb : z.2 = true := (by rw [HL12.out.1]; simpa using hv0); simp [yip, y43, z7H, HZZ.out, hb, HL12.out.2 hb]);rw [hTT];have hsz := HSZ.out
           refine ⟨va, vc, ?_, ?_, (HXR.out.trans' HWW.out (by omega)).grownB (jGX _ _ _) (fun q hq => by cases hq; omega)⟩
           . simp [nodeC, NodeT.args, NodeT.kind, NodeT.op, NodeT.x, NodeT.s, NodeT.b, NodeT.f, NodeT.ref, NodeT.to]
           . have := HEND.out.keep (S' := fun b => w.heap.size <= b) (w' := (W).setRow R (nodeC (.mk 5 o x s bb f ⟨(v, r2), rc, rr⟩ ⟨(y1, y2), qc, qr⟩ l) (.slice va l.length vc)).toArray) (fun b hb _ => by omega) (fun b hb hlt => (setRow_other _ _ _ _ (by omega)).trans (HWW.out.block b hlt (by omega)));simpa only [NodeT.args, List.length_map] using this
         . go_wp2_with (first
            | (rw [hW])
            | (go_at_call 129; refine (zbI _).mono ?_; rintro e w3 ⟨rfl, hg3⟩; have HWW : Hid (Wr (fun b => b = O) wr w3) := h_ (HWW.out.trans (Wr.of_xt hg3.xt)); have HRR := h_ (rowX hg3.xt HRR.out); clear hg3)
            | (refine w_ (P := Tryz.prog) rfl 49 _ _ rfl R (nodeC lostT (.slice none 0 0)).toArray rfl rfl 49 _ HRR.out (by kernel_rfl) (by kernel_rfl) (n_ (jrw lostT (.slice none 0 0) rfl)) ?_))
           (try simp only [Exit.inBlock, Exit.then])
           refine p_ (v := .agg (nodeC lostT (.slice none 0 0)).toArray) (t_ rfl _ _ R 49 _ (0, 0) _ rfl (setRow_heap _ _ _ _ _ _ HRR.out) Tryz.underlying49 rfl (by kernel_rfl)) rfl ?_;have hTT : gT (.mk 5 o x s bb f ⟨((j : Int), r2), rc, rr⟩ ⟨(y1, y2), qc, qr⟩ l) = lostT := (by rw [HTT.out]; have hb : z.2 = false := (by rw [HL12.out.1]; simpa using hv0); simp [yip, y43, z7H, HZZ.out, hb]);rw [hTT];have hsz := HSZ.out;exact ⟨none, 0, rfl, OwnIn.nilN n, (HXR.out.trans' HWW.out (by omega)).grownB (jGX _ _ _) (fun q hq => by cases hq; omega)⟩
     . by_cases h6 : k = 6
       . subst h6;have v1 := yZ6 (HOV.out.1.2 rfl).1;have v2 := yZ6 (HOV.out.1.2 rfl).2.1;simp only at v1 v2;cases cols
         . have hmv : (m : Int) = 4096 := HMI.out;have HSP := h_ (jAI m g a0 cnt r2 y2 wr hm HA0.out HCNT.out HRT.out (by omega) (by omega));obtain ⟨u, hu⟩ := e_ (yJ8 ⟨a0, cnt, m⟩ r2 y2);rw [hu] at HSP;have HU := h_ hu;obtain ⟨u1, u2, uo⟩ := u;have oX := HBOX.out.c7;have oY := HBOX.out.c11;rw [Nat.zero_add] at oX oY;have fz := HFR.out 7;have fy := HFR.out 11;clear hu hmv;obtain ⟨W, hW⟩ := e_ ((((wr).setCell ⟨O, 7, none⟩ (.int .i64 (u1)))).setCell ⟨O, 11, none⟩ (.int .i64 (u2)))
           have HRNG : Hid (W.rangeAt O 0 (nodeC (.mk 6 o x s bb f ⟨(r1, u1), rc, rr⟩ ⟨(y1, u2), qc, qr⟩ l) (.slice va l.length vc))) := (by unfold Hid; rw [<- hW]; exact NodeAt.cellsF (juC (t' := (.mk 6 o x s bb f ⟨(r1, u1), rc, rr⟩ ⟨(y1, u2), qc, qr⟩ l)) (juC (t' := (.mk 6 o x s bb f ⟨(r1, u1), rc, rr⟩ ⟨(y1, y2), qc, qr⟩ l)) HBOX.out 7 (.int .i64 (u1)) (by omega) rfl) 11 (.int .i64 (u2)) (by omega) rfl));have HWW : Hid (Wr (fun b => b = O) wr W) := by unfold Hid; rw [<- hW]; exact (((Wr.refl (fun b => b = O) wr).trans (Wr.cell (S := fun b => b = O) _ rfl)).trans (Wr.cell (S := fun b => b = O) _ rfl))
           have HRR : Hid (r_ W R zN 49) := (HWW.out.block R (g_ HRES.out).1 hRO).trans HRES.out;cases uo
           . go_wp2_with (first
              | (go_at_call 128; refine (HSP.out).mono ?_; rintro e w3 ⟨rfl, rfl⟩)
              | (rw [hW])
              | (go_at_call 129; refine (zbI _).mono ?_; rintro e w3 ⟨rfl, hg3⟩; have HWW : Hid (Wr (fun b => b = O) wr w3) := h_ (HWW.out.trans (Wr.of_xt hg3.xt)); have HRR := h_ (rowX hg3.xt HRR.out); clear hg3)
              | (refine w_ (P := Tryz.prog) rfl 49 _ _ rfl R (nodeC lostT (.slice none 0 0)).toArray rfl rfl 49 _ HRR.out (by kernel_rfl) (by kernel_rfl) (n_ (jrw lostT (.slice none 0 0) rfl)) ?_))
             (try simp only [Exit.inBlock, Exit.then])
             refine p_ (v := .agg (nodeC lostT (.slice none 0 0)).toArray) (t_ rfl _ _ R 49 _ (0, 0) _ rfl (setRow_heap _ _ _ _ _ _ HRR.out) Tryz.underlying49 rfl (by kernel_rfl)) rfl ?_;have hTT : gT (.mk 6 o x s bb f ⟨(r1, r2), rc, rr⟩ ⟨(y1, y2), qc, qr⟩ l) = lostT := (by rw [HTT.out]; simp [yip, y43, zi9, arOf, HU.out]);rw [hTT];have hsz := HSZ.out;exact ⟨none, 0, rfl, OwnIn.nilN n, (HXR.out.trans' HWW.out (by omega)).grownB (jGX _ _ _) (fun q hq => by cases hq; omega)⟩
           . go_wp2_with (first
              | (go_at_call 128; refine (HSP.out).mono ?_; rintro e w3 ⟨rfl, rfl⟩)
              | (rw [hW])
              | (refine u_ (P := Tryz.prog) rfl 49 _ rfl O 0 rfl (nodeC (.mk 6 o x s bb f ⟨(r1, u1), rc, rr⟩ ⟨(y1, u2), qc, qr⟩ l) (.slice va l.length vc)) _ HRNG.out Tryz.underlying49 rfl (by kernel_rfl) ?_)
              | (refine w_ (P := Tryz.prog) rfl 49 _ _ rfl R (nodeC (.mk 6 o x s bb f ⟨(r1, u1), rc, rr⟩ ⟨(y1, u2), qc, qr⟩ l) (.slice va l.length vc)).toArray rfl rfl 49 _ HRR.out (by kernel_rfl) (by kernel_rfl) (n_ (jrw _ _ rfl)) ?_))
             (try simp only [Exit.inBlock, Exit.then])
             refine p_ (v := .agg (nodeC (.mk 6 o x s bb f ⟨(r1, u1), rc, rr⟩ ⟨(y1, u2), qc, qr⟩ l) (.slice va l.length vc)).toArray) (t_ rfl _ _ R 49 _ (0, 0) _ rfl (setRow_heap _ _ _ _ _ _ HRR.out) Tryz.underlying49 rfl (by kernel_rfl)) rfl ?_;have hTT : gT (.mk 6 o x s bb f ⟨(r1, r2), rc, rr⟩ ⟨(y1, y2), qc, qr⟩ l) = (.mk 6 o x s bb f ⟨(r1, u1), rc, rr⟩ ⟨(y1, u2), qc, qr⟩ (l.map gT)) := (by rw [HTT.out]; simp [yip, y43, zi9, arOf, HU.out]);rw [hTT];have hsz := HSZ.out;refine ⟨va, vc, ?_, ?_, (HXR.out.trans' HWW.out (by omega)).grownB (jGX _ _ _) (fun q hq => by cases hq; omega)⟩
             . simp [nodeC, NodeT.args, NodeT.kind, NodeT.op, NodeT.x, NodeT.s, NodeT.b, NodeT.f, NodeT.ref, NodeT.to]
             . have := HEND.out.keep (S' := fun b => w.heap.size <= b) (w' := (W).setRow R (nodeC (.mk 6 o x s bb f ⟨(r1, u1), rc, rr⟩ ⟨(y1, u2), qc, qr⟩ l) (.slice va l.length vc)).toArray) (fun b hb _ => by omega) (fun b hb hlt => (setRow_other _ _ _ _ (by omega)).trans (HWW.out.block b hlt (by omega)));simpa only [NodeT.args, List.length_map] using this
         . have hmv : (m : Int) = 256 := HMI.out;have HSP := h_ (jAI m g a0 cnt r1 y1 wr hm HA0.out HCNT.out HRT.out (by omega) (by omega));obtain ⟨u, hu⟩ := e_ (yJ8 ⟨a0, cnt, m⟩ r1 y1);rw [hu] at HSP;have HU := h_ hu;obtain ⟨u1, u2, uo⟩ := u;have oX := HBOX.out.c6;have oY := HBOX.out.c10;rw [Nat.zero_add] at oX oY;have fz := HFR.out 6;have fy := HFR.out 10;clear hu hmv;obtain ⟨W, hW⟩ := e_ ((((wr).setCell ⟨O, 6, none⟩ (.int .i64 (u1)))).setCell ⟨O, 10, none⟩ (.int .i64 (u2)))
           have HRNG : Hid (W.rangeAt O 0 (nodeC (.mk 6 o x s bb f ⟨(u1, r2), rc, rr⟩ ⟨(u2, y2), qc, qr⟩ l) (.slice va l.length vc))) := (by unfold Hid; rw [<- hW]; exact NodeAt.cellsF (juC (t' := (.mk 6 o x s bb f ⟨(u1, r2), rc, rr⟩ ⟨(u2, y2), qc, qr⟩ l)) (juC (t' := (.mk 6 o x s bb f ⟨(u1, r2), rc, rr⟩ ⟨(y1, y2), qc, qr⟩ l)) HBOX.out 6 (.int .i64 (u1)) (by omega) rfl) 10 (.int .i64 (u2)) (by omega) rfl));have HWW : Hid (Wr (fun b => b = O) wr W) := by unfold Hid; rw [<- hW]; exact (((Wr.refl (fun b => b = O) wr).trans (Wr.cell (S := fun b => b = O) _ rfl)).trans (Wr.cell (S := fun b => b = O) _ rfl))
           have HRR : Hid (r_ W R zN 49) := (HWW.out.block R (g_ HRES.out).1 hRO).trans HRES.out;cases uo
           . go_wp2_with (first
              | (go_at_call 128; refine (HSP.out).mono ?_; rintro e w3 ⟨rfl, rfl⟩)
              | (rw [hW])
              | (go_at_call 129; refine (zbI _).mono ?_; rintro e w3 ⟨rfl, hg3⟩; have HWW : Hid (Wr (fun b => b = O) wr w3) := h_ (HWW.out.trans (Wr.of_xt hg3.xt)); have HRR := h_ (rowX hg3.xt HRR.out); clear hg3)
              | (refine w_ (P := Tryz.prog) rfl 49 _ _ rfl R (nodeC lostT (.slice none 0 0)).toArray rfl rfl 49 _ HRR.out (by kernel_rfl) (by kernel_rfl) (n_ (jrw lostT (.slice none 0 0) rfl)) ?_))
             (try simp only [Exit.inBlock, Exit.then])
             refine p_ (v := .agg (nodeC lostT (.slice none 0 0)).toArray) (t_ rfl _ _ R 49 _ (0, 0) _ rfl (setRow_heap _ _ _ _ _ _ HRR.out) Tryz.underlying49 rfl (by kernel_rfl)) rfl ?_;have hTT : gT (.mk 6 o x s bb f ⟨(r1, r2), rc, rr⟩ ⟨(y1, y2), qc, qr⟩ l) = lostT := (by rw [HTT.out]; simp [yip, y43, zi9, arOf, HU.out]);rw [hTT];have hsz := HSZ.out;exact ⟨none, 0, rfl, OwnIn.nilN n, (HXR.out.trans' HWW.out (by omega)).grownB (jGX _ _ _) (fun q hq => by cases hq; omega)⟩
           . go_wp2_with (first
              | (go_at_call 128; refine (HSP.out).mono ?_; rintro e w3 ⟨rfl, rfl⟩)
              | (rw [hW])
              | (refine u_ (P := Tryz.prog) rfl 49 _ rfl O 0 rfl (nodeC (.mk 6 o x s bb f ⟨(u1, r2), rc, rr⟩ ⟨(u2, y2), qc, qr⟩ l) (.slice va l.length vc)) _ HRNG.out Tryz.underlying49 rfl (by kernel_rfl) ?_)
              | (refine w_ (P := Tryz.prog) rfl 49 _ _ rfl R (nodeC (.mk 6 o x s bb f ⟨(u1, r2), rc, rr⟩ ⟨(u2, y2), qc, qr⟩ l) (.slice va l.length vc)).toArray rfl rfl 49 _ HRR.out (by kernel_rfl) (by kernel_rfl) (n_ (jrw _ _ rfl)) ?_))
             (try simp only [Exit.inBlock, Exit.then])
             refine p_ (v := .agg (nodeC (.mk 6 o x s bb f ⟨(u1, r2), rc, rr⟩ ⟨(u2, y2), qc, qr⟩ l) (.slice va l.length vc)).toArray) (t_ rfl _ _ R 49 _ (0, 0) _ rfl (setRow_heap _ _ _ _ _ _ HRR.out) Tryz.underlying49 rfl (by kernel_rfl)) rfl ?_;have hTT : gT (.mk 6 o x s bb f ⟨(r1, r2), rc, rr⟩ ⟨(y1, y2), qc, qr⟩ l) = (.mk 6 o x s bb f ⟨(u1, r2), rc, rr⟩ ⟨(u2, y2), qc, qr⟩ (l.map gT)) := (by rw [HTT.out]; simp [yip, y43, zi9, arOf, HU.out]);rw [hTT];have hsz := HSZ.out;refine ⟨va, vc, ?_, ?_, (HXR.out.trans' HWW.out (by omega)).grownB (jGX _ _ _) (fun q hq => by cases hq; omega)⟩
             . simp [nodeC, NodeT.args, NodeT.kind, NodeT.op, NodeT.x, NodeT.s, NodeT.b, NodeT.f, NodeT.ref, NodeT.to]
             . have := HEND.out.keep (S' := fun b => w.heap.size <= b) (w' := (W).setRow R (nodeC (.mk 6 o x s bb f ⟨(u1, r2), rc, rr⟩ ⟨(u2, y2), qc, qr⟩ l) (.slice va l.length vc)).toArray) (fun b hb _ => by omega) (fun b hb hlt => (setRow_other _ _ _ _ (by omega)).trans (HWW.out.block b hlt (by omega)));simpa only [NodeT.args, List.length_map] using this
       . have h5b : (k == 5) = false := (by simpa using h5);have h6b : (k == 6) = false := (by simpa using h6);obtain ⟨W, hW⟩ := e_ wr;have HRNG : Hid (W.rangeAt O 0 (nodeC (.mk k o x s bb f ⟨(r1, r2), rc, rr⟩ ⟨(y1, y2), qc, qr⟩ l) (.slice va l.length vc))) := (by unfold Hid; rw [<- hW]; exact NodeAt.cellsF HBOX.out);have HWW : Hid (Wr (fun b => b = O) wr W) := by unfold Hid; rw [<- hW]; exact (Wr.refl (fun b => b = O) wr)
         have HRR : Hid (r_ W R zN 49) := (HWW.out.block R (g_ HRES.out).1 hRO).trans HRES.out;subst hW;go_wp2_with (first
             | (refine u_ (P := Tryz.prog) rfl 49 _ rfl O 0 rfl (nodeC (.mk k o x s bb f ⟨(r1, r2), rc, rr⟩ ⟨(y1, y2), qc, qr⟩ l) (.slice va l.length vc)) _ HRNG.out Tryz.underlying49 rfl (by kernel_rfl) ?_)
             | (refine w_ (P := Tryz.prog) rfl 49 _ _ rfl R (nodeC (.mk k o x s bb f ⟨(r1, r2), rc, rr⟩ ⟨(y1, y2), qc, qr⟩ l) (.slice va l.length vc)).toArray rfl rfl 49 _ HRR.out (by kernel_rfl) (by kernel_rfl) (n_ (jrw _ _ rfl)) ?_))
         (try simp only [Exit.inBlock, Exit.then])
         refine p_ (v := .agg (nodeC (.mk k o x s bb f ⟨(r1, r2), rc, rr⟩ ⟨(y1, y2), qc, qr⟩ l) (.slice va l.length vc)).toArray) (t_ rfl _ _ R 49 _ (0, 0) _ rfl (setRow_heap _ _ _ _ _ _ HRR.out) Tryz.underlying49 rfl (by kernel_rfl)) rfl ?_;have hTT : gT (.mk k o x s bb f ⟨(r1, r2), rc, rr⟩ ⟨(y1, y2), qc, qr⟩ l) = (.mk k o x s bb f ⟨(r1, r2), rc, rr⟩ ⟨(y1, y2), qc, qr⟩ (l.map gT)) := (by rw [HTT.out]; simp [yip, y43, h5, h6]);rw [hTT];have hsz := HSZ.out;refine ⟨va, vc, ?_, ?_, (HXR.out.trans' HWW.out (by omega)).grownB (jGX _ _ _) (fun q hq => by cases hq; omega)⟩
         . simp [nodeC, NodeT.args, NodeT.kind, NodeT.op, NodeT.x, NodeT.s, NodeT.b, NodeT.f, NodeT.ref, NodeT.to]
         . have := HEND.out.keep (S' := fun b => w.heap.size <= b) (w' := wr.setRow R (nodeC (.mk k o x s bb f ⟨(r1, r2), rc, rr⟩ ⟨(y1, y2), qc, qr⟩ l) (.slice va l.length vc)).toArray) (fun b hb _ => by omega) (fun b hb hlt => (setRow_other _ _ _ _ (by omega)).trans (HWW.out.block b hlt (by omega)));simpa only [NodeT.args, List.length_map] using this
end
end Go.Proofs.YtdoeejhdenifpaaGreatDoor
