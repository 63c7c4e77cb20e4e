import Derived.Test.YtdoeejhdenifpaaGreatDoorB25
import Derived.Test.YtdoeejhdenifpaaGreatDoorB24
import Derived.Deep.CutBlock
import Derived.Deep.DeepCutAuto
import Derived.RangeFuncNested
import Derived.Test.YtdoeejhdenifpaaGreatDoorB17
set_option maxRecDepth 100000
set_option maxHeartbeats 16000000
namespace Go.Proofs.YtdoeejhdenifpaaGreatDoor
section
open Go.RowKit Go.Sort Go.MapKept
attribute [local go_sem] Oper.semAt_some
def zyU (f : ArT) (g : Ad) : Ad := (wrap64 (wrap64 (g.1 + f.c) - f.a), wrap64 (wrap64 (g.2 + f.d) - f.b))
def zJt (f : ArT) (g : Ad) : ArT := ⟨g.1, g.2, (zyU f g).1, (zyU f g).2⟩
theorem j3Y (f : ArT) (g : Ad) (w : World) :
    Calls Tryz.prog 41 #[arT f, .agg #[g.1, g.2]] w fun e w' => e = .returned (.tuple #[arT (zJt f g), .bool (y8L g.1 g.2 && y8L (zyU f g).1 (zyU f g).2)]) /\ Xt w w' := by
 obtain ⟨B, hB⟩ := e_ w.heap.size;obtain ⟨w0, hw0⟩ := e_ (w.alloc (.cells #[f.a, f.b, f.c, f.d] 26));have hs0 : w0.heap.size = B + 1 := (by rw [<- hw0, <- hB]; simp);obtain ⟨w1, hw1⟩ := e_ (w0.alloc (.cells #[g.1, g.2] 24));have hs1 : w1.heap.size = B + 1 + 1 := (by rw [<- hw1]; simp [hs0]);obtain ⟨w2, hw2⟩ := e_ (w1.alloc (.cells #[.int .i64 0, .int .i64 0, .int .i64 0, .int .i64 0] 26));have hs2 : w2.heap.size = B + 1 + 1 + 1 := (by rw [<- hw2]; simp [hs1]);have HX2 : Hid (Xt w w2) := by unfold Hid; rw [<- hw2, <- hw1, <- hw0]; exact (((Xt.refl w).alloc _).alloc _).alloc _
 have HR0 : Hid (r_ w2 B #[f.a, f.b, f.c, f.d] 26) := rowX (w := w0) (by rw [<- hw2, <- hw1]; exact ((Xt.refl _).alloc _).alloc _) (by rw [<- hw0, <- hB]; exact (a_ w _).1);have HR1 : Hid (r_ w2 (B + 1) #[g.1, g.2] 24) := rowX (w := w1) (by rw [<- hw2]; exact (Xt.refl _).alloc _) (by rw [<- hw1, <- hs0]; exact (a_ w0 _).1);have HR2 : Hid (r_ w2 (B + 1 + 1) #[.int .i64 0, .int .i64 0, .int .i64 0, .int .i64 0] 26) := (by unfold Hid; rw [<- hw2, <- hs1]; exact (a_ w1 _).1);obtain ⟨⟨x0, x1, x2, x3⟩, _⟩ := jr0 HR0.out
 obtain ⟨y0, y1, _, _⟩ := zxi HR1.out;obtain ⟨la, hla⟩ := e_ (zyU f g);have HLA := h_ hla;have hl1 : wrap64 (wrap64 (g.1 + f.c) - f.a) = la.1 := (by rw [<- hla]; rfl);have hl2 : wrap64 (wrap64 (g.2 + f.d) - f.b) = la.2 := (by rw [<- hla]; rfl);obtain ⟨v1, hv1⟩ := e_ (y8L g.1 g.2);obtain ⟨v2, hv2⟩ := e_ (y8L la.1 la.2);have HC1 := h_ (fun V => zpQ g.1 g.2 V);rw [hv1] at HC1;have HC2 := h_ (fun V => zpQ la.1 la.2 V);rw [hv2] at HC2;unfold zJt;rw [hla, hv1, hv2];clear hv1 hv2 hla;go_enter Tryz.func41, Tryz.ntmps41;go_upto_region 2 with fail;simp only [hl1, hl2]
 obtain ⟨wl, hwl⟩ := e_ (w2.alloc (.cells #[la.1, la.2] 24));have HXL : Hid (Xt w2 wl) := (by unfold Hid; rw [<- hwl]; exact (Xt.refl _).alloc _);have HRL : Hid (r_ wl (B + 1 + 1 + 1) #[la.1, la.2] 24) := (by unfold Hid; rw [<- hwl, <- hs2]; exact (a_ w2 _).1);simp only [hwl];clear hwl;have HMS : Hid (∀ V, Xt wl V -> c_ V (B + 1) 0 g.1 /\ c_ V (B + 1) 1 g.2 /\ c_ V (B + 1 + 1 + 1) 0 la.1 /\ c_ V (B + 1 + 1 + 1) 1 la.2) := h_ fun V hV => by
  obtain ⟨b0, b1, _, _⟩ := zxi (rowX (HXL.out.trans hV) HR1.out);obtain ⟨x0, x1, _, _⟩ := zxi (rowX hV HRL.out);exact ⟨b0, b1, x0, x1⟩
 have HW0 : Hid (Xt wl wl.drew) := (Xt.refl wl).drew;have HHH : Hid (∀ (A : World), Xt w A -> Xt w ((((A.setCell ⟨B + 1 + 1, 0, none⟩ (.int .i64 g.1)).setCell ⟨B + 1 + 1, 1, none⟩ (.int .i64 g.2)).setCell ⟨B + 1 + 1, 2, none⟩ (.int .i64 la.1)).setCell ⟨B + 1 + 1, 3, none⟩ (.int .i64 la.2))) := h_ fun A hA => by
  have hone : ∀ (A : World) (o : Nat) (u : Value), Xt w A -> Xt w (A.setCell ⟨B + 1 + 1, o, none⟩ u) := fun A o u h => h.grownB (yiv _ _ _ _) (fun q hq => by cases hq; rw [hB]; omega);exact hone _ _ _ (hone _ _ _ (hone _ _ _ (hone _ _ _ hA)))
 have HMT : Hid (∀ V, Xt wl V -> ((((V.setCell ⟨B + 1 + 1, 0, none⟩ (.int .i64 g.1)).setCell ⟨B + 1 + 1, 1, none⟩ (.int .i64 g.2)).setCell ⟨B + 1 + 1, 2, none⟩ (.int .i64 la.1)).setCell ⟨B + 1 + 1, 3, none⟩ (.int .i64 la.2)).cell? ⟨B + 1, 0, none⟩ = some (.int .i64 g.1) /\ ((((V.setCell ⟨B + 1 + 1, 0, none⟩ (.int .i64 g.1)).setCell ⟨B + 1 + 1, 1, none⟩ (.int .i64 g.2)).setCell ⟨B + 1 + 1, 2, none⟩ (.int .i64 la.1)).setCell ⟨B + 1 + 1, 3, none⟩ (.int .i64 la.2)).cell? ⟨B + 1, 1, none⟩ = some (.int .i64 g.2) /\ ((((V.setCell ⟨B + 1 + 1, 0, none⟩ (.int .i64 g.1)).setCell ⟨B + 1 + 1, 1, none⟩ (.int .i64 g.2)).setCell ⟨B + 1 + 1, 2, none⟩ (.int .i64 la.1)).setCell ⟨B + 1 + 1, 3, none⟩ (.int .i64 la.2)).cell? ⟨B + 1 + 1 + 1, 0, none⟩ = some (.int .i64 la.1) /\ ((((V.setCell ⟨B + 1 + 1, 0, none⟩ (.int .i64 g.1)).setCell ⟨B + 1 + 1, 1, none⟩ (.int .i64 g.2)).setCell ⟨B + 1 + 1, 2, none⟩ (.int .i64 la.1)).setCell ⟨B + 1 + 1, 3, none⟩ (.int .i64 la.2)).cell? ⟨B + 1 + 1 + 1, 1, none⟩ = some (.int .i64 la.2)) := h_ fun V hV => by
  obtain ⟨k0, k1, k2, k3⟩ := HMS.out V hV;have hk : ∀ b o u, b ≠ B + 1 + 1 -> V.cell? ⟨b, o, none⟩ = some u -> ((((V.setCell ⟨B + 1 + 1, 0, none⟩ (.int .i64 g.1)).setCell ⟨B + 1 + 1, 1, none⟩ (.int .i64 g.2)).setCell ⟨B + 1 + 1, 2, none⟩ (.int .i64 la.1)).setCell ⟨B + 1 + 1, 3, none⟩ (.int .i64 la.2)).cell? ⟨b, o, none⟩ = some u := fun b o u hb hu => (o_ _ _ _ _ (by simp)).trans ((o_ _ _ _ _ (by simp)).trans ((o_ _ _ _ _ (by simp)).trans ((o_ _ _ _ _ (by simp)).trans hu)));exact ⟨hk _ _ _ (by omega) k0, hk _ _ _ (by omega) k1, hk _ _ _ (by omega) k2, hk _ _ _ (by omega) k3⟩
 refine wp_region_held_drew (S := fun V => c_ V (B + 1) 0 g.1 /\ c_ V (B + 1) 1 g.2 /\ c_ V (B + 1 + 1 + 1) 0 la.1 /\ c_ V (B + 1 + 1 + 1) 1 la.2) (by kernel_rfl) (HMS.out _ HW0.out) (fun hHeld => ?_);refine tkS 0 ?_;refine tkS 1 ?_;refine tkS 2 ?_;refine tkS 3 ?_;refine rdH 4 (fun K hK => ?_);go_simp;refine (HC1.out _).mono ?_;rintro e w3 ⟨rfl, hw3⟩;have HX3 : Hid (Xt wl w3) := (by unfold Hid; rw [hw3]; exact HW0.out.alloc _);cases v1
 . refine ko hK (HMS.out _ HX3.out) fun hHeld2 => ?_;clear hK K hw3;refine tkS 5 ?_;refine sk 6 ?_;refine rdH 7 (fun K hK => ?_);go_simp;refine hK.out _ _ (HMS.out _ HX3.out) (fun hHeld2' => ?_);clear hK K;try simp only [Act.put, nm]
   obtain ⟨⟨e0, e1, e2, e3⟩, ⟨g0, g1, g2, g3⟩⟩ := jr0 (rowX (HXL.out.trans HX3.out) HR2.out);refine tkS 8 ?_;refine rdH 9 (fun K hK => ?_);go_simp;refine ko hK (HMT.out _ HX3.out) fun hHeld3 => ?_;clear hK K;refine tkS 10 ?_;refine z_ (by kernel_rfl) ?_ _;go_wp2_with fail
   have hrow : ((((w3.setCell ⟨B + 1 + 1, 0, none⟩ (.int .i64 g.1)).setCell ⟨B + 1 + 1, 1, none⟩ (.int .i64 g.2)).setCell ⟨B + 1 + 1, 2, none⟩ (.int .i64 la.1)).setCell ⟨B + 1 + 1, 3, none⟩ (.int .i64 la.2)).heap[B + 1 + 1]? = some (.cells #[g.1, g.2, la.1, la.2] 26 (0, 0)) := ysv (ysv (ysv (ysv (rowX (HXL.out.trans HX3.out) HR2.out) 0 _) 1 _) 2 _) 3 _;have hxe := HHH.out w3 ((HX2.out.trans HXL.out).trans HX3.out)
   (try simp only [Exit.inBlock, Exit.then])
   refine p_ (v := .tuple #[.agg #[g.1, g.2, la.1, la.2], .bool false]) ?_ rfl ⟨rfl, hxe⟩;rw [results_cell_tmp rfl]
   show ((asAddr (v_ (B + 1 + 1))).run _ _).andThen _ = _
   simp only [asAddr, Sem.run_pure, Result.andThen_ok, l_ _ _ _ 26 _ _ _ hrow Tryz.underlying26 rfl (by kernel_rfl)];rfl
 . refine ko hK (HMS.out _ HX3.out) fun hHeld2 => ?_;clear hK K hw3;refine tkS 5 ?_;refine tkS 6 ?_;refine rdH 7 (fun K hK => ?_);go_simp;refine (HC2.out _).mono ?_;rintro e w4 ⟨rfl, hw4⟩;have HX3 : Hid (Xt wl w4) := (by unfold Hid; rw [hw4]; exact HX3.out.alloc _);refine hK.out _ _ (HMS.out _ HX3.out) (fun hHeld2' => ?_);clear hK K hw4;try simp only [Act.put, nm]
   obtain ⟨⟨e0, e1, e2, e3⟩, ⟨g0, g1, g2, g3⟩⟩ := jr0 (rowX (HXL.out.trans HX3.out) HR2.out);refine tkS 8 ?_;refine rdH 9 (fun K hK => ?_);go_simp;refine ko hK (HMT.out _ HX3.out) fun hHeld3 => ?_;clear hK K;refine tkS 10 ?_;refine z_ (by kernel_rfl) ?_ _;go_wp2_with fail
   have hrow : ((((w4.setCell ⟨B + 1 + 1, 0, none⟩ (.int .i64 g.1)).setCell ⟨B + 1 + 1, 1, none⟩ (.int .i64 g.2)).setCell ⟨B + 1 + 1, 2, none⟩ (.int .i64 la.1)).setCell ⟨B + 1 + 1, 3, none⟩ (.int .i64 la.2)).heap[B + 1 + 1]? = some (.cells #[g.1, g.2, la.1, la.2] 26 (0, 0)) := ysv (ysv (ysv (ysv (rowX (HXL.out.trans HX3.out) HR2.out) 0 _) 1 _) 2 _) 3 _;have hxe := HHH.out w4 ((HX2.out.trans HXL.out).trans HX3.out)
   (try simp only [Exit.inBlock, Exit.then])
   refine p_ (v := .tuple #[.agg #[g.1, g.2, la.1, la.2], .bool v2]) ?_ rfl ⟨rfl, hxe⟩;rw [results_cell_tmp rfl]
   show ((asAddr (v_ (B + 1 + 1))).run _ _).andThen _ = _
   simp only [asAddr, Sem.run_pure, Result.andThen_ok, l_ _ _ _ 26 _ _ _ hrow Tryz.underlying26 rfl (by kernel_rfl)];rfl
theorem cells9 {w : World} {b : Nat} {v0 v1 v2 v3 v4 v5 v6 v7 v8 : Value} {T : TypeId} (h : w.heap[b]? = some (.cells #[v0, v1, v2, v3, v4, v5, v6, v7, v8] T (0, 0))) :
    c_ w b 0 v0 /\ c_ w b 1 v1 /\ c_ w b 2 v2 /\ c_ w b 3 v3 /\ c_ w b 4 v4 /\ c_ w b 5 v5 /\ c_ w b 6 v6 /\ c_ w b 7 v7 /\ c_ w b 8 v8 := by
 simp [World.cell?, h]
def I64 (z : Int) : Prop := -9223372036854775808 <= z /\ z <= 9223372036854775807
end
section
open Go.RowKit Go.Sort Go.Maps Go.Shelf Go.MapKept
attribute [local go_sem] Oper.semAt_some
theorem yyD {m : Nat} (pf pm pg pc pr : Nat) (f g : ArT) (cc rr : Int) (h : pf < m /\ pm < m /\ pg < m /\ pc < m /\ pr < m) : RoadIs (fun W => MvAt W pf pm pg pc pr f g cc rr /\ m <= W.heap.size) m 44 45 #[v_ pf, v_ pm, v_ pg] #[v_ pf, v_ pm, v_ pg] (mvC f g cc rr) (mvA f g cc rr) ArT.ok :=
 ⟨fun w w' hE hs hk => ⟨hE.1.kept hk h, by have := hE.2; omega⟩, fun w hE => hE.2, enters_of Tryz.func44 (by kernel_rfl) rfl, enters_of Tryz.func45 (by kernel_rfl) rfl, fun a w hE => ymy a pf pm pg pc pr f g cc rr w hE.1, fun x w _ hE => zGY x pf pm pg pc pr f g cc rr w hE.1⟩
structure MI (W0 : World) (go mo : Nat) (cG : Ad -> Ad × Bool) (aG : ArT -> ArT × Bool) (pre : List TE) (W : World) : Prop where
 grown : W0.grownBy W (some mo)
 out : ∃ Mo, GridIs W go mo Mo /\ er Mo = yan cG aG (pre.map tpT)
theorem MI.own {W0 : World} {go mo : Nat} {cG : Ad -> Ad × Bool} {aG : ArT -> ArT × Bool} (hm : mo < W0.heap.size) : OwnFrom W0.heap.size (fun pre W => MI W0 go mo cG aG pre W) := fun s X Y row hs hg hr => by
 obtain ⟨h1, ⟨Mo, h2, h3⟩⟩ := hs;exact ⟨ypE h1 hg (fun r e => (hr r e).1), ⟨Mo, h2.kept (zNc hg (fun r e => (hr r e).2)) (hg.block mo (by have := h1.size; omega) (fun e => by have := (hr mo e.symm).1; omega)), h3⟩⟩
theorem MI.start {W0 : World} {go mo : Nat} {cG : Ad -> Ad × Bool} {aG : ArT -> ArT × Bool} (h : GridIs W0 go mo []) : MI W0 go mo cG aG [] W0 := ⟨⟨rfl, rfl, rfl, Nat.le_refl _, fun _ _ _ => rfl⟩, ⟨[], h, rfl⟩⟩
theorem MI.xt {W0 W W' : World} {go mo : Nat} {cG : Ad -> Ad × Bool} {aG : ArT -> ArT × Bool} {pre : List TE} (h : MI W0 go mo cG aG pre W) (hx : Xt W W') : MI W0 go mo cG aG pre W' :=
 ⟨ypE h.grown hx.grownN (fun r e => by cases e), let ⟨Mo, h2, h3⟩ := h.out; ⟨Mo, h2.xt hx, h3⟩⟩
def farC (f : ArT) (g : Ad) : Int := wrap64 (g.1 - f.a)
def farR (f : ArT) (g : Ad) : Int := wrap64 (g.2 - f.b)
theorem ygL (f : ArT) (g : Ad) (gb mb : Nat) (M : GM) (w : World) (hG : GridIs w gb mb M) (hT : Tabs w) (hO : GOk (er M)) (hv : ygU f.a f.b f.c f.d = true) (hv1 : y8L g.1 g.2 = true) (hv2 : y8L (zyU f g).1 (zyU f g).2 = true) :
    Calls Tryz.prog 12 #[v_ gb, arT f, .agg #[g.1, g.2]] w fun e w' => Xt w w' /\ ∃ go mo Mo, e = .returned (.tuple #[v_ go, .int .i64 0]) /\ GridIs w' go mo Mo /\ er Mo = yan (mvC f (zJt f g) (farC f g) (farR f g)) (mvA f (zJt f g) (farC f g) (farR f g)) (er M) /\ w.heap.size <= mo := by
 have HG := h_ hG;have HT := h_ hT;have HO := h_ hO;obtain ⟨B, hB⟩ := e_ w.heap.size;obtain ⟨wa, hwa⟩ := e_ (w.alloc (.cells #[f.a, f.b, f.c, f.d] 26));have hsa : wa.heap.size = B + 1 := (by rw [<- hwa, <- hB]; simp);obtain ⟨w0, hw0⟩ := e_ (wa.alloc (.cells #[g.1, g.2] 24));have hs0 : w0.heap.size = B + 1 + 1 := (by rw [<- hw0]; simp [hsa]);have HX0 : Hid (Xt w w0) := by unfold Hid; rw [<- hw0, <- hwa]; exact ((Xt.refl _).alloc _).alloc _
 have HR0 : Hid (r_ w0 B #[f.a, f.b, f.c, f.d] 26) := rowX (w := wa) (by rw [<- hw0]; exact (Xt.refl _).alloc _) (by rw [<- hwa, <- hB]; exact (a_ w _).1);have HR1 : Hid (r_ w0 (B + 1) #[g.1, g.2] 24) := (by unfold Hid; rw [<- hw0, <- hsa]; exact (a_ wa _).1);have HVA := h_ (fun V => jwl f.a f.b f.c f.d V);rw [hv] at HVA;have HTH := h_ (fun V => j3Y f g V);rw [hv1, hv2] at HTH;obtain ⟨gl, hgl⟩ := e_ (zJt f g);rw [hgl] at HTH;have HBY := h_ (fun V => zTQ (f.a, f.b) g V)
 obtain ⟨cc, hcc⟩ := e_ (farC f g);obtain ⟨rr, hrr⟩ := e_ (farR f g);simp only [show wrap64 (g.1 - f.a) = cc from hcc, show wrap64 (g.2 - f.b) = rr from hrr] at HBY;rw [hgl, hcc, hrr];obtain ⟨⟨x0, x1, x2, x3⟩, _⟩ := jr0 HR0.out;obtain ⟨y0, y1, _, _⟩ := zxi HR1.out;clear hG hT hO hv hv1 hv2 hgl hcc hrr;refine (callsIn_wide (n := 25)).1 ?_;refine callsIn_of_wp_marks Tryz.func12 rfl trivial ?_ rfl;simp only [Tryz.ntmps12, List.size_toArray, List.length_cons, List.length_nil, Nat.reduceAdd, Nat.reduceSub, Array.replicate_succ, Array.replicate_zero, List.push_toArray, List.append_toArray, List.nil_append, List.cons_append];refine wpIn_wide.2 ?_
 refine wp_mono (Q := yUX (bodyPostM Fence.wide 25 Tryz.prog Tryz.f12 (fun e w' => Xt w w' /\ ∃ go mo Mo, e = .returned (.tuple #[v_ go, .int .i64 0]) /\ GridIs w' go mo Mo /\ er Mo = yan (mvC f gl cc rr) (mvA f gl cc rr) (er M) /\ w.heap.size <= mo))) ?_ yqv;have hq := Int.le_refl 0;go_wp2_with (first
  | (go_at_call 40; refine (HVA.out _).mono ?_; rintro e w1 ⟨rfl, hg1⟩; have HX1 : Hid (Xt w0 w1) := hg1.xt; obtain ⟨⟨a0, a1, a2, a3⟩, _⟩ := jr0 (rowX HX1.out HR0.out); obtain ⟨b0, b1, _, _⟩ := zxi (rowX HX1.out HR1.out); clear hg1)
  | (go_at_call 41; refine (HTH.out _).mono ?_; rintro e w2 ⟨rfl, hx2⟩; have HX2 : Hid (Xt w0 w2) := HX1.out.trans hx2; obtain ⟨wb, hwb⟩ := e_ (w2.alloc (.cells #[gl.a, gl.b, gl.c, gl.d] 26)); have HX2b : Hid (Xt w0 wb) := (by unfold Hid; rw [<- hwb]; exact HX2.out.alloc _); obtain ⟨⟨c0, c1, c2, c3⟩, _⟩ := jr0 (rowX HX2b.out HR0.out); obtain ⟨d0, d1, _, _⟩ := zxi (rowX HX2b.out HR1.out); clear hx2)
  | (go_at_call 42; refine (HBY.out _).mono ?_; rintro e w3 ⟨rfl, hg3⟩; have HX3 : Hid (Xt wb w3) := hg3.xt; obtain ⟨C, hC⟩ := e_ w3.heap.size; obtain ⟨wc, hwc⟩ := e_ (w3.alloc (.cells #[.int .i64 cc] 3)); obtain ⟨wd, hwd⟩ := e_ (wc.alloc (.cells #[.int .i64 rr] 3)); obtain ⟨we, hwe⟩ := e_ (wd.alloc (.cells #[.func (.func 43) #[] #[v_ C, v_ (C + 1)]] 92)); obtain ⟨wf, hwf⟩ := e_ (we.alloc (.cells #[.func (.func 44) #[] #[v_ B, v_ (C + 1 + 1), v_ w2.heap.size], .func (.func 45) #[] #[v_ B, v_ (C + 1 + 1), v_ w2.heap.size]] 97)); have hsc : wc.heap.size = C + 1 := (by rw [<- hwc]; simp [hC]); have hsd : wd.heap.size = C + 1 + 1 := (by rw [<- hwd]; simp [hsc]); have hse : we.heap.size = C + 1 + 1 + 1 := (by rw [<- hwe]; simp [hsd]); have hsf : wf.heap.size = C + 1 + 1 + 1 + 1 := (by rw [<- hwf]; simp [hse]); clear hg3)
  | (go_at_call 35; refine (zPb _).mono ?_; rintro e w4 ⟨rfl, hGo, hg4⟩; have HGo := h_ hGo; have HX4 := h_ hg4.xt; clear hGo hg4)
  | (go_at_call 37; refine ((callsIn_wide (n := 20)).1 (zkD 20 (by omega) _ _)).mono ?_; rintro e w' ⟨rfl, rfl⟩))
 have hx3f : Xt w3 wf := (by rw [<- hwf, <- hwe, <- hwd, <- hwc]; exact ((((Xt.refl w3).alloc _).alloc _).alloc _).alloc _);have HMW : Hid (MvAt wf B (C + 1 + 1) w2.heap.size C (C + 1) f gl cc rr) := by
  have q0 := rowX ((HX2b.out.trans HX3.out).trans hx3f) HR0.out;have hwbr : wb.heap[w2.heap.size]? = some (.cells #[gl.a, gl.b, gl.c, gl.d] 26 (0, 0)) := (by rw [<- hwb]; exact (a_ w2 _).1);have q1 := rowX (HX3.out.trans hx3f) hwbr;have q2 : wf.heap[C]? = some (.cells #[.int .i64 cc] 3 (0, 0)) := rowX (w := wc) (by rw [<- hwf, <- hwe, <- hwd]; exact (((Xt.refl wc).alloc _).alloc _).alloc _) (by rw [<- hwc, <- hC]; exact (a_ w3 _).1)
  have q3 : wf.heap[C + 1]? = some (.cells #[.int .i64 rr] 3 (0, 0)) := rowX (w := wd) (by rw [<- hwf, <- hwe]; exact ((Xt.refl wd).alloc _).alloc _) (by rw [<- hwd, <- hsc]; exact (a_ wc _).1);have q4 : wf.heap[C + 1 + 1]? = some (.cells #[.func (.func 43) #[] #[v_ C, v_ (C + 1)]] 92 (0, 0)) := rowX (w := we) (by rw [<- hwf]; exact (Xt.refl we).alloc _) (by rw [<- hwe, <- hsd]; exact (a_ wd _).1);exact ⟨q0, (yvw q4).1, q1, (yvw q2).1, (yvw q3).1⟩
 have HRF : Hid (r_ wf (C + 1 + 1 + 1) #[.func (.func 44) #[] #[v_ B, v_ (C + 1 + 1), v_ w2.heap.size], .func (.func 45) #[] #[v_ B, v_ (C + 1 + 1), v_ w2.heap.size]] 97) := (by unfold Hid; rw [<- hwf, <- hse]; exact (a_ we _).1);have HX0f : Hid (Xt w0 wf) := (HX2b.out.trans HX3.out).trans hx3f;have hP2 : w2.heap.size < C := by
  have h1 := HX3.out.size;have h2 : wb.heap.size = w2.heap.size + 1 := (by rw [<- hwb]; simp);omega
 have hP0 : B + 1 < C := (by have h1 := HX3.out.size; have h2 := HX2b.out.size; omega);obtain ⟨P2, hP2e⟩ := e_ w2.heap.size;obtain ⟨G, hGs⟩ := e_ w4.heap.size;obtain ⟨R, hR⟩ := e_ (C + 1 + 1 + 1);obtain ⟨W0, hW0⟩ := e_ (((w4.alloc (.cells #[v_ (R + 1 + 1)] 29)).alloc (.cells #[v_ gb] 29)).alloc (.cells #[.func (.func 75) #[] #[]] 99));rw [hsf] at HGo;simp only [hR] at HGo HRF hsf;simp only [hP2e] at HMW hP2 HRF;simp only [hP2e, hR, hGs, hW0];have HX4W : Hid (Xt w4 W0) := by unfold Hid; rw [<- hW0]; exact (((Xt.refl w4).alloc _).alloc _).alloc _
 have hsW : W0.heap.size = G + 3 := (by rw [<- hW0]; simp [hGs]);have rG : W0.heap[G]? = some (.cells #[v_ (R + 1 + 1)] 29 (0, 0)) := by
  rw [<- hW0, <- hGs];exact rowX (((Xt.refl _).alloc _).alloc _) (a_ w4 _).1
 have rBg : W0.heap[G + 1]? = some (.cells #[v_ gb] 29 (0, 0)) := by
  rw [<- hW0, <- hGs];have := rowX ((Xt.refl _).alloc (.cells #[.func (.func 75) #[] #[]] 99)) (a_ (w4.alloc (.cells #[v_ (R + 1 + 1)] 29)) (.cells #[v_ gb] 29)).1;simpa using this
 have rBw : W0.heap[G + 2]? = some (.cells #[.func (.func 75) #[] #[]] 99 (0, 0)) := by
  rw [<- hW0, <- hGs];have := (a_ ((w4.alloc (.cells #[v_ (R + 1 + 1)] 29)).alloc (.cells #[v_ gb] 29)) (.cells #[.func (.func 75) #[] #[]] 99)).1;simpa using this
 have HXfW : Hid (Xt wf W0) := HX4.out.trans HX4W.out;have HXW : Hid (Xt w W0) := (HX0.out.trans HX0f.out).trans HXfW.out;have HMV : Hid (MvAt W0 B (C + 1 + 1) P2 C (C + 1) f gl cc rr) := HMW.out.xt HXfW.out;have HGoW : Hid (GridIs W0 (R + 1 + 1) (R + 1) []) := HGo.out.xt HX4W.out;have HRRW := h_ (rowX HXfW.out HRF.out);have HRG := h_ rG;have hRlt := HGo.out.lt.1;have hGR : R + 1 + 1 < G := (by omega);have HRC := h_ hR;have hCR : C + 1 + 1 < R /\ B + 1 < R /\ P2 < R := (by omega);have hwB : w.heap.size <= R := (by omega);obtain ⟨cG, hcG⟩ := e_ (mvC f gl cc rr);obtain ⟨aG, haG⟩ := e_ (mvA f gl cc rr);have HCG := h_ hcG;have HAG := h_ haG
 have HcgW : W0.cell? ⟨G + 1, 0, none⟩ = some (.pointer (some ⟨gb, 0, none⟩)) := (by simp [World.cell?, rBg]);have hplt : B < R /\ C + 1 + 1 < R /\ P2 < R /\ C < R /\ C + 1 < R := (by omega);have HPL := h_ hplt;clear hW0 hcG haG rG rBg hGs hR hP2e hwa hw0 hwb hwc hwd hwe hwf HBY HTH HVA HMW;clear x0 x1 x2 x3 y0 y1 a0 a1 a2 a3 b0 b1 c0 c1 c2 c3 d0 d1;generalize hA0 : Act.mk _ _ = a0;refine (wpIn_wide (n := 25)).1 ?_;refine jF4 (n := 25) (by omega) (gf := 116) (lb := #[v_ (G + 1), v_ (G + 2)]) (by subst hA0; rfl) (enters_of Tryz.func116 (by kernel_rfl) rfl)
  (z8H (fun x => x == 2 * (R + 1) + 1) 75 #[] (enters_of Tryz.func75 (by kernel_rfl) rfl) (fun _ => true) w.heap.size w rfl (fun _ => True) (fun _ _ _ _ _ => trivial) (fun a W _ => yBt a W) (25 - 1) (by omega) (G + 1) (G + 2) gb mb M HG.out W0 HXW.out trivial (by omega) HcgW rBw (fun k hk => by simp; omega))
  (fun h k => ⟨h.1.trans k.1, h.2.trans k.2⟩) (fun W l o o' hl ho hc hw => ⟨belowK_b (w := W0) (by omega) W l o o' hl ho hc hw, KeepsT.of_grown (grownBy_putObj' W l o') (fun j o2 e h2 => by cases e; rw [ho] at h2; cases h2; cases o <;> simp_all [jG1, Obj.isCells, Obj.isWalk])⟩) (Below.refl _ _) (fun _ => rfl)
  (fun pre W => MI W0 (R + 1 + 1) (R + 1) cG aG pre W)
  (fun c pre W => False)
  (MI.own (by omega))
  (fun c s X Y row hs hg hr => hs)
  (MI.start HGoW.out)
  (fun x a' W => ∃ (z : CE) (Bx By nT : Nat), z.1 = jNS x.2.1 /\ z.2 = x.2.2 /\ r_ W Bx #[x.1.1, x.1.2] 24 /\ r_ W By (rQ z.1 (.slice z.2 z.1.t.args.length z.1.t.args.length)) 51 /\ yQE z.1.t /\ ArgsIn W nT (.slice z.2 z.1.t.args.length z.1.t.args.length) z.1.t.args /\ (x.1, x.2.1) ∈ er M /\
   a' = { tmps := (((a0.tmps.setIfInBounds 46 (adW x.1)).setIfInBounds 47 (ceV z)).setIfInBounds 15 (v_ Bx)).setIfInBounds 16 (v_ By), defers := [] })
  (fun x a' _ X Y row hs hg hr => by
   obtain ⟨z, Bx, By, nT, e1, e2, h1, h2, h3, h4, h5⟩ := hs;exact ⟨z, Bx, By, nT, e1, e2, jI8 h1 hg (fun r e => (hr r e).2), jI8 h2 hg (fun r e => (hr r e).2), h3, h4.kept (zNc hg (fun r e => (hr r e).2)), h5⟩)
  ?assign ?body ?done ?stop
 case stop =>
  rintro D c pre W hD hS hf hK;exact hf.elim
 case done =>
  rintro D xs W hD hS hI hK;subst hA0;obtain ⟨hgr, ⟨Mo, hGo, hEo⟩⟩ := hI;have HGo := h_ hGo;have HEo := h_ hEo;have HSS := h_ (zuD hS);have rG := (hgr.block G (by omega) (fun e => by have := i_ e; omega)).trans HRG.out;obtain ⟨cGG, _⟩ := yvw rG;have HxW : Hid (Xt w W) := HXW.out.grownB hgr (fun q hq => by cases hq; omega);have HK := h_ hK;clear hGo hEo hS hgr rG hK;go_wp2_with fail;refine ⟨by simp, .inl ⟨_, _, rfl, run_takeDeferred HK.out, ?_⟩⟩;have hxE : Xt w (W.putObj D (.deferred none)) := HxW.out.grownB (grownBy_putObj' W D _) (fun q hq => by cases hq; have := HXW.out.size; omega)
  have hGW : GridIs (W.putObj D (.deferred none)) (R + 1 + 1) (R + 1) Mo :=
   HGo.out.far (P := fun b => b = D) (fun b hb => World.putObj_heap_other hb) (fun b hb o u hu => by subst hb; rw [World.cell?, HK.out] at hu; cases hu) (by omega) (by omega)
  refine ⟨_, results_tmp2 rfl _ _ _, hxE, R + 1 + 1, R + 1, Mo, rfl, hGW, ?_, by omega⟩;rw [HCG.out, HAG.out, <- HSS.out]; exact HEo.out
 case assign =>
  rintro l0 pre x W K hI ⟨V, hIV, ⟨hxV, hsm, nT, hA⟩, hmem⟩ hK;subst hA0;obtain ⟨⟨c, d⟩, tc, tp⟩ := x;obtain ⟨z, hz1, hz2⟩ : ∃ z : CE, z.1 = jNS tc /\ z.2 = tp := ⟨(jNS tc, tp), rfl, rfl⟩;have hzv : ysf tc tp = ceV z := (by rw [<- jX1]; obtain ⟨z1, z2⟩ := z; simp only at hz1 hz2; rw [hz1, hz2]);have hzA : yQE z.1.t /\ ArgsIn W nT (.slice z.2 z.1.t.args.length z.1.t.args.length) z.1.t.args := by
   rw [hz1, hz2];refine ⟨jXA _ hsm, ?_⟩
   show ArgsIn _ _ (.slice tp (copyT tc.t).args.length (copyT tc.t).args.length) (copyT tc.t).args
   rw [copyT_len, zH4];exact hA.args
  have HZ := h_ (show z.1 = jNS tc /\ z.2 = tp from ⟨hz1, hz2⟩);have HZA := h_ hzA;simp only [teV, hzv];clear hz1 hz2 hzv hzA hA hsm hIV hxV;obtain ⟨wA, hwA, hbA, hsA, kA0, kA1⟩ := box1 W c d 24;obtain ⟨wZ, wR, hwZ, hwR, hrZ, hrR, hxR, hsR, hxZ, hsZ⟩ := boxR wA z;rw [hsA] at hrZ hwR hrR;have hrA : wA.heap[W.heap.size]? = some (.cells #[.int .i64 c, .int .i64 d] 24 (0, 0)) := (by rw [<- hwA]; exact World.alloc_heap_new W _);have hxWR := h_ (Xt.trans hbA hxR);have HRA := h_ ((hxR.block _ (by omega)).trans hrA);have HRZ := h_ hrZ;have HRR := h_ hrR;have HWR := h_ hwR;clear hrZ hwR hrR hrA kA0 kA1 hbA hxZ hxR
  gi_wp2_with (first | (refine zm0 (P := Tryz.prog) rfl 51 _ _ rfl (W.heap.size + 1) #[.int .i64 z.1.kind, .int .i64 z.1.v.kind, .float .f64 z.1.v.x, .string z.1.v.s, .bool z.1.v.b, .int .i64 z.1.v.f, .int .i64 z.1.t.kind, .int .i64 z.1.t.op, .float .f64 z.1.t.x, .string z.1.t.s, .bool z.1.t.b, .int .i64 z.1.t.f, .int .i64 z.1.t.ref.a.1, .int .i64 z.1.t.ref.a.2, .bool z.1.t.ref.cf, .bool z.1.t.ref.rf, .int .i64 z.1.t.to.a.1, .int .i64 z.1.t.to.a.2, .bool z.1.t.to.cf, .bool z.1.t.to.rf, .slice z.2 z.1.t.args.length z.1.t.args.length] rfl rfl 51 _ HRZ.out (by kernel_rfl) rfl (by simp [Value.oneCell']) ?_; rw [HWR.out]))
  have hx := hxWR.out;refine hK _ _ (jWD hx _) ⟨hx.mono (by have := hI.grown.size; have := HXW.out.size; omega), KeepsT.of_xt hx⟩ (hI.xt hx) ?_;refine ⟨z, W.heap.size, W.heap.size + 1, nT, HZ.out.1, HZ.out.2, HRA.out, HRR.out, HZA.out.1, HZA.out.2.xt hx, hmem, ?_⟩;simp only [List.setIfInBounds_toArray, List.set_cons_zero, List.set_cons_succ]
 case body =>
  rintro l0 pre x a' W hl0 ⟨r, hr⟩ hI ⟨z, Bx, By, nT, hz1, hz2, hBx, hBy, hzs, hzA, hmem, rfl⟩ hlt;subst hA0;obtain ⟨⟨c, d⟩, tc, tp⟩ := x;simp only at hBx hz1 hz2;obtain ⟨hgr, ⟨Mo, hGo, hEo⟩⟩ := hI;have HGo := h_ hGo;have HEo := h_ hEo;have HGr := h_ hgr;have hgs := hgr.size;have rG := (hgr.block G (by omega) (fun e => by have := i_ e; omega)).trans HRG.out;have rR := (hgr.block R (by omega) (fun e => by have := i_ e; omega)).trans HRRW.out;have HMVW : Hid (MvAt W B (C + 1 + 1) P2 C (C + 1) f gl cc rr) := HMV.out.kept (m := R) (fun b hb => hgr.block b (by omega) (fun e => by have := i_ e; omega)) HPL.out;obtain ⟨x0, x1, _, _⟩ := zxi hBx
  obtain ⟨⟨y0, y1, y2, y3⟩, _⟩ := jr0 HMVW.out.rf;have HBX := h_ hBx;have HBY := h_ hBy;have HRGW := h_ rG;have HRRW2 := h_ rR;have HXWW : Hid (Xt w W) := HXW.out.grownB hgr (fun q hq => by have := i_ hq; omega);have HZA := h_ (show yQE z.1.t /\ ArgsIn W nT (.slice z.2 z.1.t.args.length z.1.t.args.length) z.1.t.args from ⟨hzs, hzA⟩);have hnm : ∀ k u, W.cell? ⟨k, 0, none⟩ = some u -> k ≠ R + 1 := by
   rintro k u hk rfl;obtain ⟨E, hm, _⟩ := HGo.out.map;have h1 := hm.nocell 0;rw [hk] at h1;cases h1
  have hBm : By ≠ R + 1 := hnm By (.int .i64 z.1.kind) (by simp [World.cell?, hBy]);have hBxm : Bx ≠ R + 1 := hnm Bx _ x0;obtain ⟨v1, v2, v3, v4, v5⟩ := HO.out.each _ hmem;have HVZ : Hid (yQy z.1 = true) := (by unfold Hid; rw [hz1, yuh]; exact v2);have HOZ : Hid z.1.ok := (by unfold Hid; rw [hz1]; exact jvQ v5);have HZC : Hid (jNS tc = z.1) := hz1.symm;have HC1 := h_ (zkF f.a f.b f.c f.d c d W);obtain ⟨vf, hvf⟩ := e_ (inA f (c, d));rw [show inB f.a f.b f.c f.d c d = vf from hvf] at HC1;obtain ⟨vg, hvg⟩ := e_ (inA gl (c, d))
  have hq1 : cG (c, d) = if vf = true then (movG cc rr (c, d), true) else ((c, d), !vg) := by rw [<- HCG.out, <- hvf, <- hvg]; rfl
  have HQ := h_ hq1;have HC2 := h_ (fun V => zkF gl.a gl.b gl.c gl.d c d V);rw [show inB gl.a gl.b gl.c gl.d c d = vg from hvg] at HC2;have hf29 : Fence.wide.fn 16 := trivial;have hm1 : True := trivial;clear v1 v2 v3 v4 v5 hmem hq1 hvf hvg;clear hGo hEo hgr rG rR hBx hBy hz1 hz2 hzs hzA hr hlt hnm;simp only [List.setIfInBounds_toArray, List.set_cons_zero, List.set_cons_succ]
  have HPOST : Hid (∀ (az : Act) (w8 : World) (zz : Option Addr) (q : Ad), cG (c, d) = (q, true) -> GridIs w8 (R + 1 + 1) (R + 1) (j4E Mo q (yFo cG aG z.1) zz) -> W.grownBy w8 (some (R + 1)) -> ownPostG (G + 3) (fun W W' => Below B W W' /\ KeepsT (fun x => x == 2 * (R + 1) + 1) W W') (fun pre W => MI W0 (R + 1 + 1) (R + 1) cG aG pre W) (fun c pre W => False) (pre ++ [((c, d), tc, tp)]) W .normal az w8) := h_ fun az w8 zz q hqq hG8 hgW => by
   refine ⟨⟨hgW.size, fun k o hB hk _ => (hgW.block k (g_ hk).1 (fun e => by have := i_ e; omega)).trans hk⟩, ⟨⟨hgW.os, hgW.tape, hgW.output, hgW.size, fun k hk => hgW.block k (by omega) (fun e => by have := i_ e; omega)⟩, KeepsT.of_grown hgW (fun j o e ho => ?_)⟩, ⟨z8o HGr.out hgW, ⟨_, hG8, ?_⟩⟩⟩
   . obtain ⟨E, hm, _⟩ := HGo.out.map;obtain ⟨es, clk, h1, _⟩ := hm;have e1 := i_ e;rw [<- e1, h1] at ho;cases ho;simp [jG1, <- e1]
   . rw [yZx, List.map_append, List.map_cons, List.map_nil, jon, HEo.out];simp [tpT, y44, hqq, HZC.out]
  cases vf
  . cases vg
    . gi_wp2_with (first
       | (gi_at_call 16; have hm0 := hm1; clear hm1 hm0; refine (jbR HC1.out).mono ?_; rintro e w5 ⟨rfl, hg5⟩; have HX5 : Hid (Xt W w5) := hg5.xt; obtain ⟨e0, e1, _, _⟩ := zxi (rowX HX5.out HBX.out); obtain ⟨⟨g0, g1, g2, g3⟩, _⟩ := jr0 (HMVW.out.xt HX5.out).rg; clear hg5)
       | (gi_at_call 16; refine (jbR (HC2.out _)).mono ?_; rintro e w6 ⟨rfl, hg6⟩; have HX6 : Hid (Xt W w6) := HX5.out.trans hg6.xt; clear hg6))
      have hqq : cG (c, d) = ((c, d), true) := HQ.out
      have HF : Hid (∀ V, w6.grownBy V (some (R + 1)) -> c_ V G 0 (v_ (R + 1 + 1)) /\ c_ V Bx 0 (.int .i64 c) /\ c_ V Bx 1 (.int .i64 d) /\ c_ V R 0 (.func (.func 44) #[] #[v_ B, v_ (C + 1 + 1), v_ P2]) /\ c_ V R 1 (.func (.func 45) #[] #[v_ B, v_ (C + 1 + 1), v_ P2]) /\ c_ V (C + 1 + 1) 0 (.func (.func 43) #[] #[v_ C, v_ (C + 1)]) /\ r_ V By (rQ z.1 (.slice z.2 z.1.t.args.length z.1.t.args.length)) 51) := h_ fun V hV => by
       have k : ∀ b, b ≠ R + 1 -> ∀ o u, w6.cell? ⟨b, o, none⟩ = some u -> V.cell? ⟨b, o, none⟩ = some u := fun b hb o u hu => (d_ (w := w6) (a := ⟨b, o, none⟩) (hV.block b (b_ w6 _ hu) (fun e => hb (by have := i_ e; omega)))).trans hu;obtain ⟨y0', y1', _, _⟩ := zxi (rowX HX6.out HRRW2.out);obtain ⟨n0, n1, _, _⟩ := zxi (rowX HX6.out HBX.out);have hb6 := rowX HX6.out HBY.out
       exact ⟨k G (by omega) 0 _ (yvw (rowX HX6.out HRGW.out)).1, k _ hBxm 0 _ n0, k _ hBxm 1 _ n1, k R (by omega) 0 _ y0', k R (by omega) 1 _ y1', k _ (by omega) 0 _ (HMVW.out.xt HX6.out).rm, (hV.block By (g_ hb6).1 (fun e => hBm (by have := i_ e; omega))).trans hb6⟩
      have HXB : Hid (Xt W w6.drew) := HX6.out.trans (Xt.refl w6).drew;have HCT := h_ (yDY (yyD (m := R) B (C + 1 + 1) P2 C (C + 1) f gl cc rr HPL.out) nT z.1 z.2 z.1.t.args.length w6.drew ⟨HMVW.out.xt (HX6.out.trans ((Xt.refl w6).drew)), by have := HX6.out.size; have := (((Xt.refl w6).drew)).size; omega⟩ HZA.out.1 (HZA.out.2.xt (HX6.out.trans ((Xt.refl w6).drew))) (jEd HVZ.out));rw [HCG.out, HAG.out] at HCT;clear x0 x1 y0 y1 y2 y3 e0 e1 g0 g1 g2 g3;refine zM3 (S := fun V => w6.grownBy V (some (R + 1))) (by kernel_rfl) (by kernel_rfl) (fun _ _ h => h) (⟨rfl, rfl, rfl, Nat.le_refl _, fun _ _ _ => rfl⟩ : w6.grownBy w6.drew _) (fun hHeld => ?_)
      refine tk (fun _ h => And.intro (HF.out _ h).1 (And.intro (HF.out _ h).2.1 (And.intro (HF.out _ h).2.2.1 (And.intro (HF.out _ h).2.2.2.1 (And.intro (HF.out _ h).2.2.2.2.1 ((HF.out _ h).2.2.2.2.2.1)))))) 0 ?_;refine tk (fun _ h => And.intro (HF.out _ h).1 (And.intro (HF.out _ h).2.1 (And.intro (HF.out _ h).2.2.1 (And.intro (HF.out _ h).2.2.2.1 (And.intro (HF.out _ h).2.2.2.2.1 ((HF.out _ h).2.2.2.2.2.1)))))) 1 ?_;refine tk (fun _ h => And.intro (HF.out _ h).1 (And.intro (HF.out _ h).2.1 (And.intro (HF.out _ h).2.2.1 (And.intro (HF.out _ h).2.2.2.1 (And.intro (HF.out _ h).2.2.2.2.1 ((HF.out _ h).2.2.2.2.2.1)))))) 2 ?_
      refine tkH 3 (.agg (rQ z.1 (.slice z.2 z.1.t.args.length z.1.t.args.length))) ?_ ?_
      . intro V hSw; exact jad 51 _ (by rfl) By (by rfl) 51 _ _ _ (HF.out V hSw).2.2.2.2.2.2 Tryz.underlying51 rfl (by kernel_rfl)
      try simp only [Act.put, nm]
      have hHeldB := hHeld;refine rdH 4 (fun K hK => ?_);go_simp;refine (HCT.out).mono ?_;rintro e w7 ⟨a2, c2, rfl, hA7, hx7⟩;have HX7 : Hid (Xt W w7) := HXB.out.trans hx7;have HP := h_ (zbE nT (R + 1 + 1) (R + 1) Mo (c, d) (yFo cG aG z.1) a2 c2 w7 (HGo.out.xt HX7.out) (yFU HOZ.out) (HT.out.xt (HXWW.out.trans HX7.out)) (jCt HZA.out.1) hA7);refine ko hK (z8o hHeldB (hx7.grown (some (R + 1)))) fun hHeld2 => ?_;clear hK K hA7 hx7;refine rdH 5 (fun K hK => ?_);go_simp;refine (HP.out).mono ?_;rintro e w8 ⟨zz, rfl, hG8, hg8⟩;refine hK.out _ _ (z8o hHeld2 hg8) (fun hHeld3 => ?_);clear hK K;refine z_ (by kernel_rfl) ?_ _
      have hgW : W.grownBy w8 (some (R + 1)) := z8o (HX7.out.grown (some (R + 1))) hg8;clear hHeld hHeldB hHeld2 hHeld3
      gi_wp2_with fail
      exact HPOST.out _ w8 zz _ hqq hG8 hgW
    . gi_wp2_with (first
       | (gi_at_call 16; have hm0 := hm1; clear hm1 hm0; refine (jbR HC1.out).mono ?_; rintro e w5 ⟨rfl, hg5⟩; have HX5 : Hid (Xt W w5) := hg5.xt; obtain ⟨e0, e1, _, _⟩ := zxi (rowX HX5.out HBX.out); obtain ⟨⟨g0, g1, g2, g3⟩, _⟩ := jr0 (HMVW.out.xt HX5.out).rg; clear hg5)
       | (gi_at_call 16; refine (jbR (HC2.out _)).mono ?_; rintro e w6 ⟨rfl, hg6⟩; have HX6 : Hid (Xt W w6) := HX5.out.trans hg6.xt; clear hg6))
      have hqq : cG (c, d) = ((c, d), false) := HQ.out;have hx6 := HX6.out;refine ⟨jWD hx6 _, ⟨hx6.mono (by omega), KeepsT.of_xt hx6⟩, ?_⟩;refine ⟨ypE HGr.out hx6.grownN (fun r e => by cases e), ⟨Mo, HGo.out.xt hx6, ?_⟩⟩;rw [List.map_append, List.map_cons, List.map_nil, jon, HEo.out];simp [tpT, y44, hqq]
  . gi_wp2_with (first
     | (gi_at_call 16; refine (jbR HC1.out).mono ?_; rintro e w6 ⟨rfl, hg6⟩; have HX6 : Hid (Xt W w6) := hg6.xt; clear hg6))
    have hqq : cG (c, d) = (movG cc rr (c, d), true) := HQ.out
    have HF : Hid (∀ V, w6.grownBy V (some (R + 1)) -> c_ V G 0 (v_ (R + 1 + 1)) /\ c_ V Bx 0 (.int .i64 c) /\ c_ V Bx 1 (.int .i64 d) /\ c_ V R 0 (.func (.func 44) #[] #[v_ B, v_ (C + 1 + 1), v_ P2]) /\ c_ V R 1 (.func (.func 45) #[] #[v_ B, v_ (C + 1 + 1), v_ P2]) /\ c_ V (C + 1 + 1) 0 (.func (.func 43) #[] #[v_ C, v_ (C + 1)]) /\ r_ V By (rQ z.1 (.slice z.2 z.1.t.args.length z.1.t.args.length)) 51) := h_ fun V hV => by
     have k : ∀ b, b ≠ R + 1 -> ∀ o u, w6.cell? ⟨b, o, none⟩ = some u -> V.cell? ⟨b, o, none⟩ = some u := fun b hb o u hu => (d_ (w := w6) (a := ⟨b, o, none⟩) (hV.block b (b_ w6 _ hu) (fun e => hb (by have := i_ e; omega)))).trans hu;obtain ⟨y0', y1', _, _⟩ := zxi (rowX HX6.out HRRW2.out);obtain ⟨n0, n1, _, _⟩ := zxi (rowX HX6.out HBX.out);have hb6 := rowX HX6.out HBY.out
     exact ⟨k G (by omega) 0 _ (yvw (rowX HX6.out HRGW.out)).1, k _ hBxm 0 _ n0, k _ hBxm 1 _ n1, k R (by omega) 0 _ y0', k R (by omega) 1 _ y1', k _ (by omega) 0 _ (HMVW.out.xt HX6.out).rm, (hV.block By (g_ hb6).1 (fun e => hBm (by have := i_ e; omega))).trans hb6⟩
    have HMV1 := h_ (zM1 (c, d) C (C + 1) cc rr w6.drew ((HMVW.out.xt HX6.out).xt (Xt.refl w6).drew).rc ((HMVW.out.xt HX6.out).xt (Xt.refl w6).drew).rr);clear x0 x1 y0 y1 y2 y3;refine zM3 (S := fun V => w6.grownBy V (some (R + 1))) (by kernel_rfl) (by kernel_rfl) (fun _ _ h => h) (⟨rfl, rfl, rfl, Nat.le_refl _, fun _ _ _ => rfl⟩ : w6.grownBy w6.drew _) (fun hHeld => ?_);refine tk (fun _ h => And.intro (HF.out _ h).1 (And.intro (HF.out _ h).2.1 (And.intro (HF.out _ h).2.2.1 (And.intro (HF.out _ h).2.2.2.1 (And.intro (HF.out _ h).2.2.2.2.1 ((HF.out _ h).2.2.2.2.2.1)))))) 0 ?_
    refine tk (fun _ h => And.intro (HF.out _ h).1 (And.intro (HF.out _ h).2.1 (And.intro (HF.out _ h).2.2.1 (And.intro (HF.out _ h).2.2.2.1 (And.intro (HF.out _ h).2.2.2.2.1 ((HF.out _ h).2.2.2.2.2.1)))))) 1 ?_;refine tk (fun _ h => And.intro (HF.out _ h).1 (And.intro (HF.out _ h).2.1 (And.intro (HF.out _ h).2.2.1 (And.intro (HF.out _ h).2.2.2.1 (And.intro (HF.out _ h).2.2.2.2.1 ((HF.out _ h).2.2.2.2.2.1)))))) 2 ?_;refine tk (fun _ h => And.intro (HF.out _ h).1 (And.intro (HF.out _ h).2.1 (And.intro (HF.out _ h).2.2.1 (And.intro (HF.out _ h).2.2.2.1 (And.intro (HF.out _ h).2.2.2.2.1 ((HF.out _ h).2.2.2.2.2.1)))))) 4 ?_
    refine tkH 5 (.agg (rQ z.1 (.slice z.2 z.1.t.args.length z.1.t.args.length))) ?_ ?_
    . intro V hSw; exact jad 51 _ (by rfl) By (by rfl) 51 _ _ _ (HF.out V hSw).2.2.2.2.2.2 Tryz.underlying51 rfl (by kernel_rfl)
    try simp only [Act.put, nm]
    refine rdH 3 (fun K hK => ?_);go_simp;refine (HMV1.out).mono ?_;rintro e w9 ⟨rfl, hx9⟩;have HXB : Hid (Xt W w9) := (HX6.out.trans (Xt.refl w6).drew).trans hx9;have hx69 : Xt w6 w9 := (Xt.refl w6).drew.trans hx9;have HCT := h_ (yDY (yyD (m := R) B (C + 1 + 1) P2 C (C + 1) f gl cc rr HPL.out) nT z.1 z.2 z.1.t.args.length w9 ⟨HMVW.out.xt (HX6.out.trans hx69), by have := HX6.out.size; have := (hx69).size; omega⟩ HZA.out.1 (HZA.out.2.xt (HX6.out.trans hx69)) (jEd HVZ.out));rw [HCG.out, HAG.out] at HCT;refine ko hK (hx69.grown (some (R + 1))) fun hHeldB => ?_;clear hK K hx9;refine rdH 6 (fun K hK => ?_);go_simp;refine (HCT.out).mono ?_
    rintro e w7 ⟨a2, c2, rfl, hA7, hx7⟩;have HX7 : Hid (Xt W w7) := HXB.out.trans hx7;have HP := h_ (zbE nT (R + 1 + 1) (R + 1) Mo (movG cc rr (c, d)) (yFo cG aG z.1) a2 c2 w7 (HGo.out.xt HX7.out) (yFU HOZ.out) (HT.out.xt (HXWW.out.trans HX7.out)) (jCt HZA.out.1) hA7);refine ko hK (z8o hHeldB (hx7.grown (some (R + 1)))) fun hHeld2 => ?_;clear hK K hA7 hx7;refine rdH 7 (fun K hK => ?_);go_simp;refine (HP.out).mono ?_;rintro e w8 ⟨zz, rfl, hG8, hg8⟩;refine hK.out _ _ (z8o hHeld2 hg8) (fun hHeld3 => ?_);clear hK K;refine z_ (by kernel_rfl) ?_ _;have hgW : W.grownBy w8 (some (R + 1)) := z8o (HX7.out.grown (some (R + 1))) hg8
    clear hHeld hHeldB hHeld2 hHeld3
    gi_wp2_with fail
    exact HPOST.out _ w8 zz _ hqq hG8 hgW
end
section
open Go.RowKit Go.Sort Go.Maps Go.Shelf
attribute [local go_sem] Oper.semAt_some
structure KC (W W' : World) : Prop where
 size : W.heap.size <= W'.heap.size
 same : ∀ (k : Nat) (o : Obj), W.heap[k]? = some o -> o.isCells = true -> W'.heap[k]? = some o
theorem KC.refl (W : World) : KC W W := ⟨Nat.le_refl _, fun _ _ h _ => h⟩
theorem KC.trans {A B C : World} (h : KC A B) (k : KC B C) : KC A C := ⟨Nat.le_trans h.size k.size, fun b o e ho => k.same b o (h.same b o e ho) ho⟩
theorem KC.of_xt {W W' : World} (h : Xt W W') : KC W W' := ⟨h.size, fun k _ e _ => (h.block k (g_ e).1).trans e⟩
theorem KC.putObj {W : World} {l : Nat} {o : Obj} (o' : Obj) (ho : W.heap[l]? = some o) (hc : o.isCells = false) : KC W (W.putObj l o') :=
 ⟨(grownBy_putObj' W l o').size, fun k ok hk hok => ((grownBy_putObj' W l o').block k (g_ hk).1 (fun e => by have := i_ e; subst this; rw [ho] at hk; cases hk; rw [hc] at hok; cases hok)).trans hk⟩
def atOf (w : World) : Value -> Ad
 | .pointer (some p) => (intOf ((w.cell? ⟨p.block, 0, none⟩).getD undef), intOf ((w.cell? ⟨p.block, 1, none⟩).getD undef))
 | _ => (0, 0)
theorem jbK {w : World} {k : Nat} {x y : Int} {T : TypeId} (h : w.heap[k]? = some (.cells #[.int .i64 x, .int .i64 y] T (0, 0))) : atOf w (v_ k) = (x, y) := by
 simp [atOf, World.cell?, h, intOf]
def zVW (f : ArT) (a : Ad) : Nat := ((f.d - a.2) * (f.c - f.a + 1) + (f.c - a.1)).toNat + 1
theorem yL5 {f : ArT} {a : Ad} (h : inA f a = true) : ygU f.a f.b f.c f.d = true /\ f.a <= a.1 /\ a.1 <= f.c /\ f.b <= a.2 /\ a.2 <= f.d := by
 unfold inA inB at h;simp only [Bool.and_eq_true, decide_eq_true_eq] at h;exact ⟨h.1.1.1.1, h.1.1.1.2, h.1.1.2, h.1.2, h.2⟩
theorem jpX {f : ArT} {a : Ad} (hv : ygU f.a f.b f.c f.d = true) (h : f.a <= a.1 /\ a.1 <= f.c /\ f.b <= a.2 /\ a.2 <= f.d) : inA f a = true := by
 unfold inA inB;simp only [Bool.and_eq_true, decide_eq_true_eq];exact ⟨⟨⟨⟨hv, h.1⟩, h.2.1⟩, h.2.2.1⟩, h.2.2.2⟩
theorem z5C {f : ArT} {x y : Int} (h : inA f (x, y) = true) (hx : x < f.c) : zVW f (x + 1, y) + 1 = zVW f (x, y) := by
 obtain ⟨_, h1, h2, h3, h4⟩ := yL5 h;unfold zVW;have hp : 0 <= (f.d - y) * (f.c - f.a + 1) := Int.mul_nonneg (by simp only at h4; omega) (by simp only at h1 h2; omega);obtain ⟨p, hpe⟩ := e_ ((f.d - y) * (f.c - f.a + 1));simp only;rw [hpe] at hp ⊢;omega
theorem zQj {f : ArT} {x y : Int} (h : inA f (x, y) = true) (hx : x = f.c) (hy : y < f.d) : zVW f (f.a, y + 1) + 1 = zVW f (x, y) := by
 obtain ⟨_, h1, h2, h3, h4⟩ := yL5 h;unfold zVW;simp only at h1 h2 h3 h4 ⊢;have hp : 0 <= (f.d - (y + 1)) * (f.c - f.a + 1) := Int.mul_nonneg (by omega) (by omega);have e : (f.d - y) * (f.c - f.a + 1) = (f.d - (y + 1)) * (f.c - f.a + 1) + (f.c - f.a + 1) := by
  have : f.d - y = (f.d - (y + 1)) + 1 := (by omega);rw [this, Int.add_mul, Int.one_mul]
 rw [e];obtain ⟨p, hpe⟩ := e_ ((f.d - (y + 1)) * (f.c - f.a + 1));rw [hpe] at hp ⊢;omega
theorem jKe (f : ArT) (a : Ad) : 0 < zVW f a := Nat.succ_pos _
theorem zFS {a b c d : Int} (h : ygU a b c d = true) : 1 <= a /\ a <= c /\ c <= 256 /\ 1 <= b /\ b <= d /\ d <= 4096 := by
 unfold ygU at h;simp only [Bool.and_eq_true, decide_eq_true_eq] at h;have h1 := yO7 h.1.1.1;have h2 := yO7 h.1.1.2;omega
def zTp (f : ArT) : Nat -> Int -> Int -> List Ad
 | 0, _, _ => []
 | n + 1, x, y => (x, y) :: (if x = f.c /\ y = f.d then [] else if x < f.c then zTp f n (x + 1) y else zTp f n f.a (y + 1))
def y1i (f : ArT) : List Ad := zTp f (zVW f (f.a, f.b)) f.a f.b
theorem zgs (f : ArT) : zTp f (zVW f (f.c, f.d)) f.c f.d = [(f.c, f.d)] := by
 unfold zVW;simp only [Int.sub_self, Int.zero_mul, Int.add_zero, Int.toNat_zero];rw [zTp, if_pos ⟨rfl, rfl⟩]
theorem zsd {f : ArT} {y : Int} (h : inA f (f.c, y) = true) (hy : y < f.d) : zTp f (zVW f (f.c, y)) f.c y = (f.c, y) :: zTp f (zVW f (f.a, y + 1)) f.a (y + 1) := by
 rw [<- zQj h rfl hy, zTp, if_neg (by omega), if_neg (by omega)]
theorem yAc {f : ArT} {x y : Int} (h : inA f (x, y) = true) (hx : x < f.c) : zTp f (zVW f (x, y)) x y = (x, y) :: zTp f (zVW f (x + 1, y)) (x + 1) y := by
 rw [<- z5C h hx, zTp, if_neg (by omega), if_pos hx]
theorem y5l {pre l k : List Ad} {z : Ad} (h : pre ++ z :: l = k) : pre ++ [z] <+: k := ⟨l, by rw [<- h]; simp⟩
abbrev encA (x : Ad) : Array Value := #[adW x]
end
section
open Go.RowKit Go.Sort Go.MapKept
attribute [local go_sem] Oper.semAt_some
def meetA (f x : ArT) : ArT := ⟨max f.a x.a, max f.b x.b, min f.c x.c, min f.d x.d⟩
def vaA (f : ArT) : Bool := ygU f.a f.b f.c f.d
def z0K (f x : ArT) : Bool := vaA f && vaA x && vaA (meetA f x)
end
section
open Go.RowKit Go.Sort Go.Maps Go.Shelf Go.MapKept
attribute [local go_sem] Oper.semAt_some
def hitN (f : ArT) (x : NodeT) : Bool := (decide (x.kind = 5) && inA f x.ref.a) || (decide (x.kind = 6) && z0K f (arOf x.ref x.to))
def hitT (f : ArT) (t : NodeT) : Bool := (jBl t).any (hitN f)
def busyP (f : ArT) (l : PG) : Bool := l.any fun x => inA f x.1 || hitT f x.2.t
end
section
open Go.RowKit Go.Sort Go.MapKept
attribute [local go_sem] Oper.semAt_some
def hasB (f : ArT) (a : Ad) : Bool := decide (f.a <= a.1) && decide (a.1 <= f.c) && decide (f.b <= a.2) && decide (a.2 <= f.d)
theorem jlE {f : ArT} (h : ygU f.a f.b f.c f.d = true) (a : Ad) : hasB f a = inA f a := by
 unfold hasB inA inB;rw [h]; simp
theorem jOD (f : ArT) (a : Ad) (w : World) :
    Calls Tryz.prog 92 #[arT f, .agg #[a.1, a.2]] w fun e w' => e = .returned (.bool (hasB f a)) /\ Xt w w' := by
 obtain ⟨w0, hw0⟩ := e_ (w.alloc (.cells #[f.a, f.b, f.c, f.d] 26));obtain ⟨w1, hw1⟩ := e_ (w0.alloc (.cells #[a.1, a.2] 24));have hs0 : w0.heap.size = w.heap.size + 1 := (by rw [<- hw0]; simp);have HX : Hid (Xt w w1) := (by unfold Hid; rw [<- hw1, <- hw0]; exact ((Xt.refl _).alloc _).alloc _);have hr0 : w1.heap[w.heap.size]? = some (.cells #[f.a, f.b, f.c, f.d] 26 (0, 0)) := rowX (w := w0) (by rw [<- hw1]; exact (Xt.refl _).alloc _) (by rw [<- hw0]; exact (a_ w _).1)
 have hr1 : w1.heap[w.heap.size + 1]? = some (.cells #[a.1, a.2] 24 (0, 0)) := (by rw [<- hw1, <- hs0]; exact (a_ w0 _).1);obtain ⟨⟨q0, q1, q2, q3⟩, _⟩ := jr0 hr0;obtain ⟨p0, p1, _, _⟩ := zxi hr1;clear hr0 hr1;go_enter Tryz.func92, Tryz.ntmps92;by_cases h1 : f.a <= a.1
 all_goals by_cases h2 : a.1 <= f.c
 all_goals by_cases h3 : f.b <= a.2
 all_goals by_cases h4 : a.2 <= f.d
 all_goals (go_wp2_with fail; go_ret; exact ⟨by simp [hasB, h1, h2, h3, h4], HX.out⟩)
theorem j2f (a : Ad) (f g : ArT) (w : World) :
    Calls Tryz.prog 96 #[.agg #[a.1, a.2], arT f, arT g] w fun e w' => e = .returned (.agg #[.int .i64 (wrap64 (wrap64 (a.1 - f.a) + g.a)), .int .i64 (wrap64 (wrap64 (a.2 - f.b) + g.b))]) /\ Xt w w' := by
 obtain ⟨w0, hw0⟩ := e_ (w.alloc (.cells #[a.1, a.2] 24));obtain ⟨w1, hw1⟩ := e_ (w0.alloc (.cells #[f.a, f.b, f.c, f.d] 26));obtain ⟨w2, hw2⟩ := e_ (w1.alloc (.cells #[g.a, g.b, g.c, g.d] 26));obtain ⟨w3, hw3⟩ := e_ (w2.alloc (.cells #[.int .i64 0, .int .i64 0] 24));have hs0 : w0.heap.size = w.heap.size + 1 := (by rw [<- hw0]; simp);have hs1 : w1.heap.size = w.heap.size + 1 + 1 := (by rw [<- hw1]; simp [hs0]);have hs2 : w2.heap.size = w.heap.size + 1 + 1 + 1 := by rw [<- hw2]; simp [hs1]
 have HX : Hid (Xt w w3) := (by unfold Hid; rw [<- hw3, <- hw2, <- hw1, <- hw0]; exact ((((Xt.refl _).alloc _).alloc _).alloc _).alloc _);have hr0 : w3.heap[w.heap.size]? = some (.cells #[a.1, a.2] 24 (0, 0)) := rowX (w := w0) (by rw [<- hw3, <- hw2, <- hw1]; exact (((Xt.refl _).alloc _).alloc _).alloc _) (by rw [<- hw0]; exact (a_ w _).1);have hr1 : w3.heap[w.heap.size + 1]? = some (.cells #[f.a, f.b, f.c, f.d] 26 (0, 0)) := rowX (w := w1) (by rw [<- hw3, <- hw2]; exact ((Xt.refl _).alloc _).alloc _) (by rw [<- hw1, <- hs0]; exact (a_ w0 _).1)
 have hr2 : w3.heap[w.heap.size + 1 + 1]? = some (.cells #[g.a, g.b, g.c, g.d] 26 (0, 0)) := rowX (w := w2) (by rw [<- hw3]; exact (Xt.refl _).alloc _) (by rw [<- hw2, <- hs1]; exact (a_ w1 _).1);have hr3 : w3.heap[w.heap.size + 1 + 1 + 1]? = some (.cells #[.int .i64 0, .int .i64 0] 24 (0, 0)) := (by rw [<- hw3, <- hs2]; exact (a_ w2 _).1);obtain ⟨p0, p1, _, _⟩ := zxi hr0;obtain ⟨⟨q0, q1, _, _⟩, _⟩ := jr0 hr1;obtain ⟨⟨z0, z1, _, _⟩, _⟩ := jr0 hr2;obtain ⟨u0, u1, v0, v1⟩ := zxi hr3;have HR3 := h_ hr3;clear hr0 hr1 hr2 hr3;go_enter Tryz.func96, Tryz.ntmps96;go_wp2_with fail
 obtain ⟨k1, hk1⟩ := e_ (wrap64 (wrap64 (a.1 - f.a) + g.a));obtain ⟨k2, hk2⟩ := e_ (wrap64 (wrap64 (a.2 - f.b) + g.b));rw [hk1, hk2];have hrow : ((w3.setCell ⟨w.heap.size + 1 + 1 + 1, 0, none⟩ (.int .i64 k1)).setCell ⟨w.heap.size + 1 + 1 + 1, 1, none⟩ (.int .i64 k2)).heap[w.heap.size + 1 + 1 + 1]? = some (.cells #[.int .i64 k1, .int .i64 k2] 24 (0, 0)) := ysv (ysv HR3.out 0 _) 1 _;have hone : ∀ (A : World) (o : Nat) (u : Value), Xt w A -> Xt w (A.setCell ⟨w.heap.size + 1 + 1 + 1, o, none⟩ u) := fun A o u h => h.grownB (yiv _ _ _ _) (fun q hq => by cases hq; omega);have hxe := hone _ 1 (.int .i64 k2) (hone _ 0 (.int .i64 k1) HX.out)
 (try simp only [Exit.inBlock, Exit.then])
 refine p_ (t_ rfl _ _ (w.heap.size + 1 + 1 + 1) _ _ _ _ rfl hrow Tryz.underlying24 rfl (by kernel_rfl)) rfl ?_;exact ⟨rfl, hxe⟩
theorem zRO (f : ArT) (g : Ad) (w : World) :
    Calls Tryz.prog 90 #[arT f, .agg #[g.1, g.2]] w fun e w' => (∃ x : ArT, e = .returned (.tuple #[arT x, .bool (y8L g.1 g.2 && y8L (zyU f g).1 (zyU f g).2)]) /\ ((y8L g.1 g.2 && y8L (zyU f g).1 (zyU f g).2) = true -> x = zJt f g)) /\ Xt w w' := by
 obtain ⟨B, hB⟩ := e_ w.heap.size;obtain ⟨w0, hw0⟩ := e_ (w.alloc (.cells #[f.a, f.b, f.c, f.d] 26));have hs0 : w0.heap.size = B + 1 := (by rw [<- hw0, <- hB]; simp);obtain ⟨w1, hw1⟩ := e_ (w0.alloc (.cells #[g.1, g.2] 24));have hs1 : w1.heap.size = B + 1 + 1 := (by rw [<- hw1]; simp [hs0]);obtain ⟨w2, hw2⟩ := e_ (w1.alloc (.cells #[.int .i64 0, .int .i64 0, .int .i64 0, .int .i64 0] 26));have hs2 : w2.heap.size = B + 1 + 1 + 1 := (by rw [<- hw2]; simp [hs1]);have HX2 : Hid (Xt w w2) := by unfold Hid; rw [<- hw2, <- hw1, <- hw0]; exact (((Xt.refl w).alloc _).alloc _).alloc _
 have HR0 : Hid (r_ w2 B #[f.a, f.b, f.c, f.d] 26) := rowX (w := w0) (by rw [<- hw2, <- hw1]; exact ((Xt.refl _).alloc _).alloc _) (by rw [<- hw0, <- hB]; exact (a_ w _).1);have HR1 : Hid (r_ w2 (B + 1) #[g.1, g.2] 24) := rowX (w := w1) (by rw [<- hw2]; exact (Xt.refl _).alloc _) (by rw [<- hw1, <- hs0]; exact (a_ w0 _).1);have HR2 : Hid (r_ w2 (B + 1 + 1) #[.int .i64 0, .int .i64 0, .int .i64 0, .int .i64 0] 26) := (by unfold Hid; rw [<- hw2, <- hs1]; exact (a_ w1 _).1);obtain ⟨⟨x0, x1, x2, x3⟩, _⟩ := jr0 HR0.out
 obtain ⟨y0, y1, _, _⟩ := zxi HR1.out;obtain ⟨la, hla⟩ := e_ (zyU f g);have HLA := h_ hla;have hl1 : wrap64 (wrap64 (g.1 + f.c) - f.a) = la.1 := (by rw [<- hla]; rfl);have hl2 : wrap64 (wrap64 (g.2 + f.d) - f.b) = la.2 := (by rw [<- hla]; rfl);obtain ⟨v1, hv1⟩ := e_ (y8L g.1 g.2);obtain ⟨v2, hv2⟩ := e_ (y8L la.1 la.2);have HC1 := h_ (fun V => jlf g.1 g.2 V);rw [hv1] at HC1;have HC2 := h_ (fun V => jlf la.1 la.2 V);rw [hv2] at HC2;have HTE : Hid (zJt f g = ⟨g.1, g.2, la.1, la.2⟩) := (by unfold Hid zJt; rw [hla]);rw [hla, hv1, hv2];clear hv1 hv2 hla;go_enter Tryz.func90, Tryz.ntmps90;cases v1
 . go_wp2_with (first
    | (go_at_call 65; refine (HC1.out _).mono ?_; rintro e w3 ⟨rfl, hw3⟩; have HX3 : Hid (Xt w2 w3) := (by unfold Hid; rw [hw3]; exact (Xt.refl _).alloc _); have HR3 := h_ (rowX HX3.out HR2.out); clear hw3)
    | (refine w_ (P := Tryz.prog) rfl 26 _ _ rfl (B + 1 + 1) #[.int .i64 0, .int .i64 0, .int .i64 0, .int .i64 0] rfl rfl 26 _ HR3.out (by kernel_rfl) rfl (by simp [Value.oneCell']) ?_))
   have hrow := setRow_heap w3 (B + 1 + 1) _ #[.int .i64 0, .int .i64 0, .int .i64 0, .int .i64 0] _ _ HR3.out;have hxe : Xt w (w3.setRow (B + 1 + 1) #[.int .i64 0, .int .i64 0, .int .i64 0, .int .i64 0]) := (HX2.out.trans HX3.out).grownB (jGX _ _ _) (fun q hq => by cases hq; rw [hB]; omega)
   (try simp only [Exit.inBlock, Exit.then])
   refine p_ (v := .tuple #[.agg #[.int .i64 0, .int .i64 0, .int .i64 0, .int .i64 0], .bool false]) ?_ rfl ⟨⟨⟨0, 0, 0, 0⟩, rfl, fun h => by cases h⟩, hxe⟩;rw [results_cell_tmp rfl]
   show ((asAddr (v_ (B + 1 + 1))).run _ _).andThen _ = _
   simp only [asAddr, Sem.run_pure, Result.andThen_ok, l_ _ _ _ 26 _ _ _ hrow Tryz.underlying26 rfl (by kernel_rfl)];rfl
 . go_upto_region 5 with (first
    | (go_at_call 65; refine (HC1.out _).mono ?_; rintro e w3 ⟨rfl, hw3⟩; have HX3 : Hid (Xt w2 w3) := (by unfold Hid; rw [hw3]; exact (Xt.refl _).alloc _); have HR3 := h_ (rowX HX3.out HR2.out); obtain ⟨⟨a0, a1, a2, a3⟩, _⟩ := jr0 (rowX HX3.out HR0.out); obtain ⟨b0, b1, _, _⟩ := zxi (rowX HX3.out HR1.out); clear hw3))
   simp only [hl1, hl2];obtain ⟨X, hX⟩ := e_ w3.heap.size;have hXB : B + 1 + 1 < X := (by rw [<- hX]; exact (g_ HR3.out).1);obtain ⟨wl, hwl⟩ := e_ (w3.alloc (.cells #[la.1, la.2] 24));have HXL : Hid (Xt w3 wl) := (by unfold Hid; rw [<- hwl]; exact (Xt.refl _).alloc _);have HRL : Hid (r_ wl X #[la.1, la.2] 24) := (by unfold Hid; rw [<- hwl, <- hX]; exact (a_ w3 _).1);obtain ⟨c0, c1, _, _⟩ := zxi HRL.out;simp only [hwl, hX];clear hwl;have HR4 := h_ (rowX HXL.out HR3.out);have HR14 := h_ (rowX (HX3.out.trans HXL.out) HR1.out);go_wp2_with (first
    | (go_at_call 65; refine (HC2.out _).mono ?_; rintro e w5 ⟨rfl, hw5⟩; have HX5 : Hid (Xt wl w5) := (by unfold Hid; rw [hw5]; exact (Xt.refl _).alloc _); have HR5 := h_ (rowX HX5.out HR4.out); obtain ⟨d0, d1, _, _⟩ := zxi (rowX HX5.out HR14.out); obtain ⟨e0, e1, _, _⟩ := zxi (rowX HX5.out HRL.out); clear hw5)
    | (refine w_ (P := Tryz.prog) rfl 26 _ _ rfl (B + 1 + 1) #[.int .i64 g.1, .int .i64 g.2, .int .i64 la.1, .int .i64 la.2] rfl rfl 26 _ HR5.out (by kernel_rfl) rfl (by simp [Value.oneCell']) ?_))
   have hrow := setRow_heap w5 (B + 1 + 1) _ #[.int .i64 g.1, .int .i64 g.2, .int .i64 la.1, .int .i64 la.2] _ _ HR5.out;have hxe : Xt w (w5.setRow (B + 1 + 1) #[.int .i64 g.1, .int .i64 g.2, .int .i64 la.1, .int .i64 la.2]) := (((HX2.out.trans HX3.out).trans HXL.out).trans HX5.out).grownB (jGX _ _ _) (fun q hq => by cases hq; rw [hB]; omega)
   (try simp only [Exit.inBlock, Exit.then])
   refine p_ (v := .tuple #[.agg #[g.1, g.2, la.1, la.2], .bool v2]) ?_ rfl ⟨⟨⟨g.1, g.2, la.1, la.2⟩, by simp [arT], fun _ => HTE.out.symm⟩, hxe⟩;rw [results_cell_tmp rfl]
   show ((asAddr (v_ (B + 1 + 1))).run _ _).andThen _ = _
   simp only [asAddr, Sem.run_pure, Result.andThen_ok, l_ _ _ _ 26 _ _ _ hrow Tryz.underlying26 rfl (by kernel_rfl)];rfl
def okNb (n by_ most : Int) (fx : Bool) : Bool := fx || (decide (1 <= n + by_) && decide (n + by_ <= most))
theorem yJO (n by_ most : Int) (fx : Bool) (w : World) (hn : 1 <= n /\ n <= 4096) (hm : 0 <= most /\ most <= 4096) :
    Calls Tryz.prog 189 #[.int .i64 n, .int .i64 by_, .int .i64 most, .bool fx] w fun e w' => (∃ v, e = .returned (.tuple #[.int .i64 v, .bool (okNb n by_ most fx)]) /\ (okNb n by_ most fx = true -> v = if fx = true then n else n + by_)) /\ w = w' := by
 have hneg : IntKind.i64.wrap (-n) = -n := (by rw [IntKind.wrap_i64]; omega);have hneg2 : wrap64 (-n) = -n := (by unfold wrap64; omega);cases fx
 . by_cases h1 : by_ < -n
   . go_enter Tryz.func189, Tryz.ntmps189;go_wp2_with fail
     go_ret2
     have h2 : okNb n by_ most false = false := (by simp [okNb]; omega);rw [h2];exact ⟨⟨_, rfl, fun h => by cases h⟩, rfl⟩
   . by_cases h3 : most < by_
     . go_enter Tryz.func189, Tryz.ntmps189;go_wp2_with fail
       go_ret2
       have h2 : okNb n by_ most false = false := (by simp [okNb]; omega);rw [h2];exact ⟨⟨_, rfl, fun h => by cases h⟩, rfl⟩
     . have hadd : IntKind.i64.wrap (n + by_) = n + by_ := (by rw [IntKind.wrap_i64]; omega);have hadd2 : wrap64 (n + by_) = n + by_ := (by unfold wrap64; omega);by_cases h4 : 1 <= n + by_
       all_goals by_cases h5 : n + by_ <= most
       all_goals (go_enter Tryz.func189, Tryz.ntmps189; go_wp2_with fail; go_ret2; exact ⟨⟨n + by_, by simp [okNb, h4, h5], fun _ => rfl⟩, rfl⟩)
 . go_enter Tryz.func189, Tryz.ntmps189;go_wp2_with fail
   go_ret2
   exact ⟨⟨n, rfl, fun _ => rfl⟩, rfl⟩
theorem zaD {n by_ most : Int} {fx : Bool} (hn : 1 <= n /\ n <= most) (hm : most <= 4096) : (okNb n by_ most fx = true ↔ 1 <= shN n by_ fx /\ shN n by_ fx <= most) /\ (okNb n by_ most fx = true -> (if fx = true then n else n + by_) = shN n by_ fx) := by
 unfold okNb shN;cases fx
 . simp only [Bool.false_or, Bool.and_eq_true, decide_eq_true_eq, Bool.false_eq_true, if_false];split
   . omega
   . split
     . omega
     . have : wrap64 (n + by_) = n + by_ := (by unfold wrap64; omega);rw [this];omega
 . simp [hn]
def y7i (r : RefT) (cc rr : Int) (w : World) (e : Ending) (w' : World) : Prop := (∃ x : RefT, e = .returned (.tuple #[.agg #[x.a.1, x.a.2, .bool x.cf, .bool x.rf], .bool (shB cc rr r)]) /\ (shB cc rr r = true -> x = shR cc rr r)) /\ Xt w w'
theorem jhT (r : RefT) (cc rr : Int) (w : World) :
    Calls Tryz.prog 171 #[.agg #[r.a.1, r.a.2, .bool r.cf, .bool r.rf], .int .i64 cc, .int .i64 rr] w (y7i r cc rr w) := by
 obtain ⟨B, hB⟩ := e_ w.heap.size;obtain ⟨w0, hw0⟩ := e_ (w.alloc (.cells #[r.a.1, r.a.2, .bool r.cf, .bool r.rf] 46));have hs0 : w0.heap.size = B + 1 := (by rw [<- hw0, <- hB]; simp);obtain ⟨w1, hw1⟩ := e_ (w0.alloc (.cells #[.int .i64 0, .int .i64 0, .bool false, .bool false] 46));have HX1 : Hid (Xt w w1) := (by unfold Hid; rw [<- hw1, <- hw0]; exact ((Xt.refl _).alloc _).alloc _);have HR0 : Hid (r_ w1 B #[r.a.1, r.a.2, .bool r.cf, .bool r.rf] 46) := rowX (w := w0) (by rw [<- hw1]; exact (Xt.refl _).alloc _) (by rw [<- hw0, <- hB]; exact (a_ w _).1)
 have HR1 : Hid (r_ w1 (B + 1) #[.int .i64 0, .int .i64 0, .bool false, .bool false] 46) := (by unfold Hid; rw [<- hw1, <- hs0]; exact (a_ w0 _).1);obtain ⟨⟨y0, y1, y2, y3⟩, _⟩ := jr0 HR0.out;obtain ⟨vb, hvb⟩ := e_ (y8L r.a.1 r.a.2);have HVB := h_ hvb;have HC := h_ (fun V => jlf r.a.1 r.a.2 V);rw [hvb] at HC;clear hvb;go_enter Tryz.func171, Tryz.ntmps171;cases vb
 . go_wp2_with (first
    | (go_at_call 65; refine (HC.out _).mono ?_; rintro e w3 ⟨rfl, hw3⟩; have HX3 : Hid (Xt w1 w3) := (by unfold Hid; rw [hw3]; exact (Xt.refl _).alloc _); have HR3 := h_ (rowX HX3.out HR1.out); clear hw3)
    | (refine w_ (P := Tryz.prog) rfl 46 _ _ rfl (B + 1) #[.int .i64 0, .int .i64 0, .bool false, .bool false] rfl rfl 46 _ HR3.out (by kernel_rfl) rfl (by simp [Value.oneCell']) ?_))
   have hrow := setRow_heap w3 (B + 1) _ #[.int .i64 0, .int .i64 0, .bool false, .bool false] _ _ HR3.out;have hxe : Xt w (w3.setRow (B + 1) #[.int .i64 0, .int .i64 0, .bool false, .bool false]) := (HX1.out.trans HX3.out).grownB (jGX _ _ _) (fun q hq => by cases hq; omega);have hsb : shB cc rr r = false := by unfold shB; rw [HVB.out]; rfl
   (try simp only [Exit.inBlock, Exit.then])
   refine p_ (v := .tuple #[.agg #[.int .i64 0, .int .i64 0, .bool false, .bool false], .bool false]) ?_ rfl (by unfold y7i; rw [hsb]; exact ⟨⟨⟨(0, 0), false, false⟩, rfl, fun h => by cases h⟩, hxe⟩);rw [results_cell_tmp rfl]
   show ((asAddr (v_ (B + 1))).run _ _).andThen _ = _
   simp only [asAddr, Sem.run_pure, Result.andThen_ok, l_ _ _ _ 46 _ _ _ hrow Tryz.underlying46 rfl (by kernel_rfl)];rfl
 . have hv : 1 <= r.a.1 /\ r.a.1 <= 256 /\ 1 <= r.a.2 /\ r.a.2 <= 4096 := (by have h := HVB.out; unfold y8L at h; simp at h; omega);have HS1 := h_ (fun V => yJO r.a.1 cc 256 r.cf V (by omega) (by omega));have HS2 := h_ (fun V => yJO r.a.2 rr 4096 r.rf V (by omega) (by omega));obtain ⟨k1, k2⟩ := zaD (by_ := cc) (fx := r.cf) (n := r.a.1) (most := 256) (by omega) (by omega);obtain ⟨k3, k4⟩ := zaD (by_ := rr) (fx := r.rf) (n := r.a.2) (most := 4096) (by omega) (by omega);obtain ⟨o1, ho1⟩ := e_ (okNb r.a.1 cc 256 r.cf);obtain ⟨o2, ho2⟩ := e_ (okNb r.a.2 rr 4096 r.rf);rw [ho1] at HS1 k1 k2;rw [ho2] at HS2 k3 k4
   have hsb : shB cc rr r = (o1 && o2) := by
    unfold shB shA;rw [HVB.out];cases o1 <;> cases o2 <;> (unfold y8L; simp at k1 k3 ⊢) <;> omega
   have HK2 := h_ k2;have HK4 := h_ k4;have HSB := h_ hsb;clear ho1 ho2 k1 k2 k3 k4 hsb hv;go_upto_region 6 with (first
    | (go_at_call 65; refine (HC.out _).mono ?_; rintro e w3 ⟨rfl, hw3⟩; have HX3 : Hid (Xt w1 w3) := (by unfold Hid; rw [hw3]; exact (Xt.refl _).alloc _); have HR3 := h_ (rowX HX3.out HR1.out); have HR30 := h_ (rowX HX3.out HR0.out); obtain ⟨⟨z0, z1, z2, z3⟩, ⟨g0, g1, g2, g3⟩⟩ := jr0 HR30.out; clear hw3)
    | (go_at_call 189; refine (HS1.out _).mono ?_; rintro e w4 ⟨⟨v1, rfl, hv1⟩, rfl⟩; have HV1 := h_ hv1; clear hv1 HS1)
    | (go_at_call 189; refine (HS2.out _).mono ?_; rintro e w4 ⟨⟨v2, rfl, hv2⟩, rfl⟩; have HV2 := h_ hv2; clear hv2 HS2))
   by_cases ho : (o1 && o2) = true
   . obtain ⟨rfl, rfl⟩ : o1 = true /\ o2 = true := by simpa using ho
     go_upto_region 9 with fail;obtain ⟨w5, hw5⟩ := e_ ((w3.setCell ⟨B, 0, none⟩ (.int .i64 v1)).setCell ⟨B, 1, none⟩ (.int .i64 v2));have HR5 : Hid (r_ w5 B #[.int .i64 v1, .int .i64 v2, .bool r.cf, .bool r.rf] 46) := (by unfold Hid; rw [<- hw5]; exact ysv (ysv HR30.out 0 _) 1 _);have HR51 : Hid (r_ w5 (B + 1) #[.int .i64 0, .int .i64 0, .bool false, .bool false] 46) := (by unfold Hid; rw [<- hw5]; exact (s_ _ _ _ _ (by simp)).trans ((s_ _ _ _ _ (by simp)).trans HR3.out));have HX5 : Hid (Xt w w5) := by
      unfold Hid; rw [<- hw5];exact ((HX1.out.trans HX3.out).grownB (yiv _ _ _ _) (fun q hq => by cases hq; omega)).grownB (yiv _ _ _ _) (fun q hq => by cases hq; omega)
     simp only [hw5];clear hw5;go_wp2_with (first
      | (refine x_ (P := Tryz.prog) rfl 46 _ rfl B rfl 46 _ (0, 0) _ HR5.out Tryz.underlying46 rfl (by kernel_rfl) ?_)
      | (refine w_ (P := Tryz.prog) rfl 46 _ _ rfl (B + 1) #[.int .i64 v1, .int .i64 v2, .bool r.cf, .bool r.rf] rfl rfl 46 _ HR51.out (by kernel_rfl) rfl (by simp [Value.oneCell']) ?_))
     have hrow := setRow_heap w5 (B + 1) _ #[.int .i64 v1, .int .i64 v2, .bool r.cf, .bool r.rf] _ _ HR51.out;have hxe : Xt w (w5.setRow (B + 1) #[.int .i64 v1, .int .i64 v2, .bool r.cf, .bool r.rf]) := HX5.out.grownB (jGX _ _ _) (fun q hq => by cases hq; omega)
     (try simp only [Exit.inBlock, Exit.then])
     refine p_ (v := .tuple #[.agg #[.int .i64 v1, .int .i64 v2, .bool r.cf, .bool r.rf], .bool true]) ?_ rfl (by unfold y7i; rw [HSB.out]; exact ⟨⟨⟨(v1, v2), r.cf, r.rf⟩, rfl, fun _ => by unfold shR; rw [HSB.out]; simp only [Bool.and_true, if_true]; unfold shA; rw [(HV1.out (by trivial)).trans (HK2.out (by trivial)), (HV2.out (by trivial)).trans (HK4.out (by trivial))]⟩, hxe⟩)
     . rw [results_cell_tmp rfl]
       show ((asAddr (v_ (B + 1))).run _ _).andThen _ = _
       simp only [asAddr, Sem.run_pure, Result.andThen_ok, l_ _ _ _ 46 _ _ _ hrow Tryz.underlying46 rfl (by kernel_rfl)];rfl
   . have hof : (o1 && o2) = false := (by simpa using ho);have HOF := h_ hof;obtain ⟨ob, hob⟩ := e_ (!o1 || !o2);clear hof;cases o1
     all_goals cases o2
     all_goals first
      | (exfalso; exact ho rfl)
      | (go_wp2_with (first
          | (refine w_ (P := Tryz.prog) rfl 46 _ _ rfl (B + 1) #[.int .i64 0, .int .i64 0, .bool false, .bool false] rfl rfl 46 _ HR3.out (by kernel_rfl) rfl (by simp [Value.oneCell']) ?_))
         have hrow := setRow_heap w3 (B + 1) _ #[.int .i64 0, .int .i64 0, .bool false, .bool false] _ _ HR3.out;have hxe : Xt w (w3.setRow (B + 1) #[.int .i64 0, .int .i64 0, .bool false, .bool false]) := (HX1.out.trans HX3.out).grownB (jGX _ _ _) (fun q hq => by cases hq; omega)
         (try simp only [Exit.inBlock, Exit.then])
         refine p_ (v := .tuple #[.agg #[.int .i64 0, .int .i64 0, .bool false, .bool false], .bool false]) ?_ rfl (by unfold y7i; rw [HSB.out]; exact ⟨⟨⟨(0, 0), false, false⟩, rfl, fun h => by cases h⟩, hxe⟩);rw [results_cell_tmp rfl]
         show ((asAddr (v_ (B + 1))).run _ _).andThen _ = _
         simp only [asAddr, Sem.run_pure, Result.andThen_ok, l_ _ _ _ 46 _ _ _ hrow Tryz.underlying46 rfl (by kernel_rfl)]
         rfl)
end
end Go.Proofs.YtdoeejhdenifpaaGreatDoor
