import Derived.Test.YtdoeejhdenifpaaGreatDoorB34
import Derived.Test.YtdoeejhdenifpaaGreatDoorB40
set_option maxRecDepth 100000
set_option maxHeartbeats 16000000
namespace Go.Proofs.YtdoeejhdenifpaaGreatDoor
section
open Go.RowKit Go.Sort Go.Maps Go.Shelf Go.MapKept
attribute [local go_sem] Oper.semAt_some
theorem zLB (n : Nat) (t : NodeT) (a : Option Addr) (cap : Nat) (dc dr : Int) (w : World) (hok : t.ok) (hsm : yQE t) (hin : ArgsIn w n (.slice a t.args.length cap) t.args) (hck : ywH t = 0) :
    Calls Tryz.prog 130 #[jSk t a t.args.length cap, .int .i64 dc, .int .i64 dr] w fun e w' => ∃ a' c', e = .returned (.tuple #[jSk (upT (shH dc dr) t) a' (upT (shH dc dr) t).args.length c', .int .i64 0]) /\ OwnIn (fun b => w.heap.size <= b) w' n (.slice a' (upT (shH dc dr) t).args.length c') (upT (shH dc dr) t).args /\ Xt w w' := by
 obtain ⟨T, hT⟩ := e_ (upT (shH dc dr) t);have HIN := h_ hin;have HSM := h_ hsm;have HOK := h_ hok;have HS := h_ (jzD dc dr n);unfold ShIs at HS;obtain ⟨B, hB⟩ := e_ w.heap.size;obtain ⟨w0, hw0⟩ := e_ (w.alloc (.cells (rN t (.slice a t.args.length cap)) 49));have hs0 : w0.heap.size = B + 1 := by rw [<- hw0, <- hB]; simp
 obtain ⟨w1, hw1⟩ := e_ (w0.alloc (.cells zN 49));have HX1 : Hid (Xt w w1) := by unfold Hid; rw [<- hw1, <- hw0]; exact ((Xt.refl _).alloc _).alloc _
 have HR0 : Hid (r_ w1 B (rN t (.slice a t.args.length cap)) 49) := rowX (w := w0) (by rw [<- hw1]; exact (Xt.refl _).alloc _) (by rw [<- hw0, <- hB]; exact (a_ w _).1)
 have HR1 : Hid (r_ w1 (B + 1) zN 49) := (by unfold Hid; rw [<- hw1, <- hs0]; exact (a_ w0 _).1);have HCH := h_ (yCt n t a cap w1 hok (hin.xt HX1.out));rw [hck] at HCH;rw [hT];have HTT := h_ hT;clear hok hsm hin hck hT;go_enter Tryz.func130, Tryz.ntmps130;go_wp2_with (first
  | (refine x_ (P := Tryz.prog) rfl 49 _ rfl B rfl 49 _ (0, 0) _ (by first | exact HR02.out | exact HR0.out) Tryz.underlying49 rfl (by kernel_rfl) ?_)
  | (go_at_call 106; refine (HCH.out).mono ?_; rintro e w2 ⟨rfl, hx2⟩; have HX2 := h_ hx2.xt; have HR02 := h_ (rowX hx2.xt HR0.out); have HR12 := h_ (rowX hx2.xt HR1.out); have HCS := h_ (HS.out t a cap w2 HSM.out (HIN.out.xt (HX1.out.trans hx2.xt))); rw [HTT.out] at HCS; clear hx2 HR0)
  | (go_at_call 158; refine (HCS.out).mono ?_; rintro e w3 ⟨a2, c2, rfl, hA3, hx3⟩; have HX3 := h_ hx3; have HA3 := h_ hA3; have HR13 := h_ (rowX hx3 HR12.out); clear hx3 hA3)
  | (refine w_ (P := Tryz.prog) rfl 49 _ _ rfl (B + 1) #[.int .i64 T.kind, .int .i64 T.op, .float .f64 T.x, .string T.s, .bool T.b, .int .i64 T.f, .int .i64 T.ref.a.1, .int .i64 T.ref.a.2, .bool T.ref.cf, .bool T.ref.rf, .int .i64 T.to.a.1, .int .i64 T.to.a.2, .bool T.to.cf, .bool T.to.rf, .slice a2 T.args.length c2] rfl rfl 49 _ HR13.out (by kernel_rfl) rfl (by simp [Value.oneCell']) ?_))
 have hrow := setRow_heap w3 (B + 1) _ #[.int .i64 T.kind, .int .i64 T.op, .float .f64 T.x, .string T.s, .bool T.b, .int .i64 T.f, .int .i64 T.ref.a.1, .int .i64 T.ref.a.2, .bool T.ref.cf, .bool T.ref.rf, .int .i64 T.to.a.1, .int .i64 T.to.a.2, .bool T.to.cf, .bool T.to.rf, .slice a2 T.args.length c2] _ _ HR13.out;have hB2 : B + 1 < w2.heap.size := (g_ HR12.out).1
 have hxe : Xt w (w3.setRow (B + 1) (rN T (.slice a2 T.args.length c2))) := ((HX1.out.trans HX2.out).trans HX3.out).grownB (jGX _ _ _) (fun q hq => by cases hq; omega)
 (try simp only [Exit.inBlock, Exit.then])
 refine p_ (v := .tuple #[.agg (rN T (.slice a2 T.args.length c2)), .int .i64 0]) ?_ rfl ⟨a2, c2, rfl, OwnIn.keep (fun b hb _ => by have := HX2.out.size; have := HX1.out.size; omega) (fun b hb hlt => setRow_other _ _ _ _ (by omega)) HA3.out, hxe⟩;rw [results_cell_tmp rfl]
 show ((asAddr (v_ (B + 1))).run _ _).andThen _ = _
 simp only [asAddr, Sem.run_pure, Result.andThen_ok, l_ _ _ _ 49 #[.int .i64 T.kind, .int .i64 T.op, .float .f64 T.x, .string T.s, .bool T.b, .int .i64 T.f, .int .i64 T.ref.a.1, .int .i64 T.ref.a.2, .bool T.ref.cf, .bool T.ref.rf, .int .i64 T.to.a.1, .int .i64 T.to.a.2, .bool T.to.cf, .bool T.to.rf, .slice a2 T.args.length c2] _ _ hrow Tryz.underlying49 rfl (by kernel_rfl)];rfl
theorem yuE {w w5 w7 : World} {r : Option Nat} (hx : Xt w w5) (hg : w5.grownBy w7 r) : w.grownBy w7 r :=
 ⟨hg.os.trans hx.os, hg.tape.trans hx.tape, hg.output.trans hx.output, Nat.le_trans hx.size hg.size, fun k hk hn => (hg.block k (Nat.lt_of_lt_of_le hk hx.size) hn).trans (hx.block k hk)⟩
def shD (dc dr : Int) (c : ContT) : ContT := if c.kind = 2 then ⟨c.kind, c.v, upT (shH dc dr) c.t⟩ else c
theorem shD_eq {dc dr : Int} {c : ContT} (h : jNS c = c) : shD dc dr c = shC dc dr (jNS c) := by rw [j5Q h]; rfl
theorem jYq (n : Nat) (rb : Nat) (l : List PI) (c : ContT) (ca : Option Addr) (cap : Nat) (fr to_ : Ad) (dc dr : Int) (w : World) (h : DG w rb l) (hok : c.ok) (hsm : yQE c.t) (hin : ArgsIn w n (.slice ca c.t.args.length cap) c.t.args) (hgv : yQy c = true) (hcc : jNS c = c)
    (hdc : wrap64 (to_.1 - fr.1) = dc) (hdr : wrap64 (to_.2 - fr.2) = dr) :
    Calls Tryz.prog 93 #[v_ rb, jEC c ca c.t.args.length cap, .agg #[fr.1, fr.2], .agg #[to_.1, to_.2]] w (ykf w rb l to_ (shD dc dr c)) := by
 obtain ⟨C, hC⟩ := e_ (shD dc dr c);have HIN := h_ hin;have HSM := h_ hsm;have HOK := h_ hok;have H := h_ h;obtain ⟨B, hB⟩ := e_ w.heap.size;obtain ⟨w0, hw0⟩ := e_ (w.alloc (.cells (rQ c (.slice ca c.t.args.length cap)) 51))
 have hs0 : w0.heap.size = B + 1 := (by rw [<- hw0, <- hB]; simp);obtain ⟨w1, hw1⟩ := e_ (w0.alloc (.cells #[fr.1, fr.2] 24));have hs1 : w1.heap.size = B + 1 + 1 := (by rw [<- hw1]; simp [hs0]);obtain ⟨w2, hw2⟩ := e_ (w1.alloc (.cells #[to_.1, to_.2] 24));have x1 : Xt w0 w1 := (by rw [<- hw1]; exact (Xt.refl _).alloc _);have x2 : Xt w1 w2 := (by rw [<- hw2]; exact (Xt.refl _).alloc _);have HX2 : Hid (Xt w w2) := by unfold Hid; rw [<- hw2, <- hw1, <- hw0]; exact (((Xt.refl _).alloc _).alloc _).alloc _
 have HR0 : Hid (r_ w2 B (rQ c (.slice ca c.t.args.length cap)) 51) := rowX (x1.trans x2) (by rw [<- hw0, <- hB]; exact (a_ w _).1);have HR1 : Hid (r_ w2 (B + 1) #[fr.1, fr.2] 24) := rowX x2 (by rw [<- hw1, <- hs0]; exact (a_ w0 _).1)
 have HR2 : Hid (r_ w2 (B + 1 + 1) #[to_.1, to_.2] 24) := (by unfold Hid; rw [<- hw2, <- hs1]; exact (a_ w1 _).1);have k0 : w2.cell? ⟨B, 0, none⟩ = some (.int .i64 c.kind) := (by have := HR0.out; simp [World.cell?, this]);obtain ⟨p0, p1, _, _⟩ := zxi HR1.out;obtain ⟨q0, q1, _, _⟩ := zxi HR2.out;clear x1 x2;by_cases hk : c.kind = 2
 . have hck : ywH c.t = 0 := by
    have h := hgv;unfold yQy at h;rw [show (c.kind == 0) = false from by rw [hk]; rfl, show (c.kind == 1) = false from by rw [hk]; rfl, show (c.kind == 2) = true from by rw [hk]; rfl] at h;simp at h;exact h.2
   have hkb : (c.kind == 2) = true := (by rw [hk]; rfl);obtain ⟨T, hT⟩ := e_ (upT (shH dc dr) c.t);have HCS := h_ (zLB n c.t ca cap dc dr w2 hok.2.1 hsm (hin.xt HX2.out) hck);rw [hT] at HCS;have hCT : C = ⟨c.kind, c.v, T⟩ := (by rw [<- hC]; unfold shD; rw [if_pos hk, hT]);have HCO : Hid (ContT.ok ⟨c.kind, c.v, T⟩) := by
    have h := j00 dc dr (jvQ hok);rw [j5Q hcc, if_pos hk, hT] at h;exact h
   have HCM : Hid (yQE T) := by
    have h := z2y dc dr (c := jNS c) (jXA _ hsm);rw [j5Q hcc, if_pos hk, hT] at h;exact h
   rw [hC, hCT];have HRF : Hid (w2.rangeAt B 6 (nodeC c.t (.slice ca c.t.args.length cap))) := h_ fun j v hv => by
    simp only [World.cell?, HR0.out];have h1 : (#[.int .i64 c.kind, .int .i64 c.v.kind, .float .f64 c.v.x, .string c.v.s, .bool c.v.b, .int .i64 c.v.f, .int .i64 c.t.kind, .int .i64 c.t.op, .float .f64 c.t.x, .string c.t.s, .bool c.t.b, .int .i64 c.t.f, .int .i64 c.t.ref.a.1, .int .i64 c.t.ref.a.2, .bool c.t.ref.cf, .bool c.t.ref.rf, .int .i64 c.t.to.a.1, .int .i64 c.t.to.a.2, .bool c.t.to.cf, .bool c.t.to.rf, .slice ca c.t.args.length cap] : Array Value).toList[6 + j]? = some v := (by rw [Nat.add_comm]; exact hv);simpa using h1
   have hnv : Value.agg (nodeC c.t (.slice ca c.t.args.length cap)).toArray = jSk c.t ca c.t.args.length cap := rfl;clear h hok hsm hin hgv hcc hC hk hck hT hCT;go_enter Tryz.func93, Tryz.ntmps93;go_upto_region 3 with (first
    | (refine u_ (P := Tryz.prog) rfl 49 _ rfl B 6 rfl (nodeC c.t (.slice ca c.t.args.length cap)) _ HRF.out Tryz.underlying49 rfl (by kernel_rfl) ?_; rw [hnv])
    | (go_at_call 130; refine (HCS.out).mono ?_; rintro e w3 ⟨a2, c2, rfl, hA3, hx3⟩; have HX3 := h_ hx3; have HA3 := h_ hA3; clear hx3 hA3))
   obtain ⟨Y, hY⟩ := e_ w3.heap.size;obtain ⟨w4, hw4⟩ := e_ (w3.alloc (.cells (rN T (.slice a2 T.args.length c2)) 49));simp only [hw4, hY];have HX4 : Hid (Xt w3 w4) := by unfold Hid; rw [<- hw4]; exact (Xt.refl _).alloc _
   have HR4 : Hid (r_ w4 Y (rN T (.slice a2 T.args.length c2)) 49) := (by unfold Hid; rw [<- hw4, <- hY]; exact (a_ w3 _).1);clear hw4 hY;have HX24 := h_ (HX3.out.trans HX4.out);have HR04 := h_ (rowX HX24.out HR0.out);have HTH := h_ (y7R HR04.out 6 15 (by simp))
   obtain ⟨w5, hw5⟩ := e_ (w4.setCells B 6 [.int .i64 T.kind, .int .i64 T.op, .float .f64 T.x, .string T.s, .bool T.b, .int .i64 T.f, .int .i64 T.ref.a.1, .int .i64 T.ref.a.2, .bool T.ref.cf, .bool T.ref.rf, .int .i64 T.to.a.1, .int .i64 T.to.a.2, .bool T.to.cf, .bool T.to.rf, .slice a2 T.args.length c2])
   have HR5 : Hid (r_ w5 B #[c.kind, c.v.kind, .float .f64 c.v.x, .string c.v.s, c.v.b, c.v.f, T.kind, T.op, .float .f64 T.x, .string T.s, T.b, T.f, T.ref.a.1, T.ref.a.2, .bool T.ref.cf, .bool T.ref.rf, T.to.a.1, T.to.a.2, .bool T.to.cf, .bool T.to.rf, .slice a2 T.args.length c2] 51) := (by unfold Hid; rw [<- hw5]; exact yZ5 HR04.out);have HG5 : Hid (w4.grownBy w5 (some B)) := (by unfold Hid; rw [<- hw5]; exact jRE B _ 6 w4);have HX5 : Hid (Xt w w5) := h_ (((HX2.out.trans HX24.out)).grownB HG5.out (fun q hq => by cases hq; omega))
   have hB3 : B + 1 + 1 < w3.heap.size := (g_ (rowX HX3.out HR2.out)).1;have hB4 : B + 1 + 1 < w4.heap.size := (g_ (rowX HX24.out HR2.out)).1;obtain ⟨t0, t1, _, _⟩ := zxi ((HG5.out.block (B + 1 + 1) hB4 (fun e => by cases e)).trans (rowX HX24.out HR2.out));have hB2 : B + 1 + 1 < w2.heap.size := (g_ HR2.out).1;have HA5 := h_ (OwnIn.keep (S' := fun b => w2.heap.size <= b) (fun b hb _ => hb) (fun b hb hlt => (HG5.out.block b (by have := HX4.out.size; omega) (fun e => by cases e; omega)).trans (HX4.out.block b hlt)) HA3.out).args
   have HPU := h_ (ze5 n rb l to_ ⟨c.kind, c.v, T⟩ a2 c2 w5 (H.out.xt HX5.out) HCO.out HCM.out HA5.out);have HW5 := h_ hw5;clear hw5 k0 p0 p1 q0 q1;go_wp2_with (first
    | (refine x_ (P := Tryz.prog) rfl 49 _ rfl Y rfl 49 _ (0, 0) _ HR4.out Tryz.underlying49 rfl (by kernel_rfl) ?_)
    | (refine wpList_store_mid (P := Tryz.prog) rfl 49 _ _ rfl B 6 #[.int .i64 T.kind, .int .i64 T.op, .float .f64 T.x, .string T.s, .bool T.b, .int .i64 T.f, .int .i64 T.ref.a.1, .int .i64 T.ref.a.2, .bool T.ref.cf, .bool T.ref.rf, .int .i64 T.to.a.1, .int .i64 T.to.a.2, .bool T.to.cf, .bool T.to.rf, .slice a2 T.args.length c2] rfl rfl HTH.out (by kernel_rfl) (by simp [Value.oneCell']) ?_; rw [HW5.out])
    | (refine x_ (P := Tryz.prog) rfl 51 _ rfl B rfl 51 _ (0, 0) _ HR5.out Tryz.underlying51 rfl (by kernel_rfl) ?_)
    | (go_at_call 26; refine (HPU.out).mono ?_; rintro e w7 ⟨l7, rfl, hD7, hp7, hg7⟩))
   go_ret;unfold ykf;exact ⟨l7, rfl, hD7, hp7, yuE HX5.out hg7⟩
 . have hkb : (c.kind == 2) = false := (by simpa using hk);have hCT : C = c := (by rw [<- hC]; unfold shD; rw [if_neg hk]);rw [hC, hCT];have HPU := h_ (ze5 n rb l to_ c ca cap w2 (h.xt HX2.out) hok hsm (hin.xt HX2.out));clear h hok hsm hin hgv hcc hC hk hCT;go_enter Tryz.func93, Tryz.ntmps93;go_wp2_with (first
    | (refine x_ (P := Tryz.prog) rfl 51 _ rfl B rfl 51 _ (0, 0) _ HR0.out Tryz.underlying51 rfl (by kernel_rfl) ?_)
    | (go_at_call 26; refine (HPU.out).mono ?_; rintro e w7 ⟨l7, rfl, hD7, hp7, hg7⟩))
   go_ret;unfold ykf;exact ⟨l7, rfl, hD7, hp7, yuE HX2.out hg7⟩
end
end Go.Proofs.YtdoeejhdenifpaaGreatDoor
