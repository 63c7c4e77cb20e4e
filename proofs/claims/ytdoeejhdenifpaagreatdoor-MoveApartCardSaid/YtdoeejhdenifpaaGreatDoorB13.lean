import Derived.Test.YtdoeejhdenifpaaGreatDoorB11
import Derived.Deep.MidRow
import Derived.Laws.Rows
import Derived.Test.YtdoeejhdenifpaaGreatDoorB12
import Derived.ArgAppend
set_option maxRecDepth 100000
set_option maxHeartbeats 16000000
namespace Go.Proofs.YtdoeejhdenifpaaGreatDoor
section
open Go.RowKit Go.Sort
theorem jMA {w : World} {b : Nat} {v0 v1 v2 v3 v4 v5 v6 v7 v8 v9 v10 v11 v12 v13 v14 v15 v16 v17 v18 v19 v20 : Value} {T : TypeId} (h : w.heap[b]? = some (.cells #[v0, v1, v2, v3, v4, v5, v6, v7, v8, v9, v10, v11, v12, v13, v14, v15, v16, v17, v18, v19, v20] T (0, 0))) : c_ w b 0 v0 /\ c_ w b 1 v1 /\ c_ w b 2 v2 /\ c_ w b 3 v3 /\ c_ w b 4 v4 /\ c_ w b 5 v5 /\ c_ w b 6 v6 /\ c_ w b 7 v7 /\ c_ w b 8 v8 /\ c_ w b 9 v9 /\ c_ w b 10 v10 /\ c_ w b 11 v11 /\ c_ w b 12 v12 /\ c_ w b 13 v13 /\ c_ w b 14 v14 /\ c_ w b 15 v15 /\ c_ w b 16 v16 /\ c_ w b 17 v17 /\ c_ w b 18 v18 /\ c_ w b 19 v19 /\ c_ w b 20 v20 := by
 have hk : ∀ o v, #[v0, v1, v2, v3, v4, v5, v6, v7, v8, v9, v10, v11, v12, v13, v14, v15, v16, v17, v18, v19, v20][o]? = some v -> w.cell? ⟨b, o, none⟩ = some v := fun o v ho => by simpa [World.cell?, h] using ho
 exact ⟨hk 0 _ rfl, hk 1 _ rfl, hk 2 _ rfl, hk 3 _ rfl, hk 4 _ rfl, hk 5 _ rfl, hk 6 _ rfl, hk 7 _ rfl, hk 8 _ rfl, hk 9 _ rfl, hk 10 _ rfl, hk 11 _ rfl, hk 12 _ rfl, hk 13 _ rfl, hk 14 _ rfl, hk 15 _ rfl, hk 16 _ rfl, hk 17 _ rfl, hk 18 _ rfl, hk 19 _ rfl, hk 20 _ rfl⟩
theorem jLq {w : World} {b : Nat} {cs : Array Value} {T : TypeId} (h : w.heap[b]? = some (.cells cs T (0, 0))) : w.frozen? ⟨b, 0, none⟩ = false /\ w.frozen? ⟨b, 1, none⟩ = false /\ w.frozen? ⟨b, 2, none⟩ = false /\ w.frozen? ⟨b, 3, none⟩ = false /\ w.frozen? ⟨b, 4, none⟩ = false /\ w.frozen? ⟨b, 5, none⟩ = false /\ w.frozen? ⟨b, 6, none⟩ = false /\ w.frozen? ⟨b, 7, none⟩ = false /\ w.frozen? ⟨b, 8, none⟩ = false /\ w.frozen? ⟨b, 9, none⟩ = false /\ w.frozen? ⟨b, 10, none⟩ = false /\ w.frozen? ⟨b, 11, none⟩ = false /\ w.frozen? ⟨b, 12, none⟩ = false /\ w.frozen? ⟨b, 13, none⟩ = false /\ w.frozen? ⟨b, 14, none⟩ = false /\ w.frozen? ⟨b, 15, none⟩ = false /\ w.frozen? ⟨b, 16, none⟩ = false /\ w.frozen? ⟨b, 17, none⟩ = false /\ w.frozen? ⟨b, 18, none⟩ = false /\ w.frozen? ⟨b, 19, none⟩ = false /\ w.frozen? ⟨b, 20, none⟩ = false := by
 have hk : ∀ o, w.frozen? ⟨b, o, none⟩ = false := fun o => by simp [World.frozen?, h]
 exact ⟨hk 0, hk 1, hk 2, hk 3, hk 4, hk 5, hk 6, hk 7, hk 8, hk 9, hk 10, hk 11, hk 12, hk 13, hk 14, hk 15, hk 16, hk 17, hk 18, hk 19, hk 20⟩
theorem jGX (w : World) (g : Nat) (cs : Array Value) : w.grownBy (w.setRow g cs) (some g) := ⟨rfl, rfl, rfl, by simp, fun k _ hk => setRow_other w g k _ (fun e => hk (by rw [e]))⟩
theorem y7R {w : World} {b : Nat} {cs : Array Value} {T : TypeId} (h : w.heap[b]? = some (.cells cs T (0, 0))) (o n : Nat) (hn : o + n <= cs.size) : w.there b o n := fun j hj => by
 have : o + j < cs.size := (by omega);exact ⟨by simp [World.cell?, h, this], by simp [World.frozen?, h]⟩
theorem yZ5 {w : World} {b : Nat} {v0 v1 v2 v3 v4 v5 v6 v7 v8 v9 v10 v11 v12 v13 v14 v15 v16 v17 v18 v19 v20 u0 u1 u2 u3 u4 u5 u6 u7 u8 u9 u10 u11 u12 u13 u14 : Value} {T : TypeId} (h : w.heap[b]? = some (.cells #[v0, v1, v2, v3, v4, v5, v6, v7, v8, v9, v10, v11, v12, v13, v14, v15, v16, v17, v18, v19, v20] T (0, 0))) : (w.setCells b 6 [u0, u1, u2, u3, u4, u5, u6, u7, u8, u9, u10, u11, u12, u13, u14]).heap[b]? = some (.cells #[v0, v1, v2, v3, v4, v5, u0, u1, u2, u3, u4, u5, u6, u7, u8, u9, u10, u11, u12, u13, u14] T (0, 0)) := by
 have := (ysv (ysv (ysv (ysv (ysv (ysv (ysv (ysv (ysv (ysv (ysv (ysv (ysv (ysv (ysv h 6 u0) 7 u1) 8 u2) 9 u3) 10 u4) 11 u5) 12 u6) 13 u7) 14 u8) 15 u9) 16 u10) 17 u11) 18 u12) 19 u13) 20 u14);simp only [List.setIfInBounds_toArray, List.set_cons_zero, List.set_cons_succ] at this;exact this
def jNS (c : ContT) : ContT := ⟨c.kind, { c.v with x := oneX c.v.x }, copyT c.t⟩
theorem jEi (t : NodeT) : (copyT t).kind = t.kind := by cases t; rfl
theorem zCL (t : NodeT) : (copyT t).op = t.op := by cases t; rfl
theorem j1J (t : NodeT) : (copyT t).x = oneX t.x := by cases t; rfl
theorem y5o (t : NodeT) : (copyT t).s = t.s := by cases t; rfl
theorem jbm (t : NodeT) : (copyT t).b = t.b := by cases t; rfl
theorem zoN (t : NodeT) : (copyT t).f = t.f := by cases t; rfl
theorem zKL (t : NodeT) : (copyT t).ref = t.ref := by cases t; rfl
theorem zJM (t : NodeT) : (copyT t).to = t.to := by cases t; rfl
theorem zH4 (t : NodeT) : (copyT t).args = jEz t.args := by cases t; rfl
theorem copyT_len (t : NodeT) : (copyT t).args.length = t.args.length := by rw [zH4, j3y]; simp
abbrev ysf (c : ContT) (a : Option Addr) : Value := jEC (jNS c) a c.t.args.length c.t.args.length
theorem ysU (c : ContT) (a : Option Addr) : ysf c a = .agg #[c.kind, c.v.kind, .float .f64 (oneX c.v.x), .string c.v.s, c.v.b, c.v.f, c.t.kind, c.t.op, .float .f64 (oneX c.t.x), .string c.t.s, c.t.b, c.t.f, c.t.ref.a.1, c.t.ref.a.2, .bool c.t.ref.cf, .bool c.t.ref.rf, c.t.to.a.1, c.t.to.a.2, .bool c.t.to.cf, .bool c.t.to.rf, .slice a c.t.args.length c.t.args.length] := by
 simp only [ysf, jEC, jNS, jEi, zCL, j1J, y5o, jbm, zoN, zKL, zJM]
def GCopyR (c : ContT) (n : Nat) (w : World) (e : Ending) (w' : World) : Prop := ∃ a', e = .returned (ysf c a') /\ ArgsS (fun b => w.heap.size <= b) w' n (.slice a' c.t.args.length c.t.args.length) (jEz c.t.args) /\ Xt w w'
@[go_sem] theorem run_field_x (k f : Int) (x : Nat) (s : ByteArray) (b : Bool) (w : World) : (Instr.field 44 (.agg #[.int .i64 k, .float .f64 x, s, b, f]) 1).run Tryz.prog w = .ok (.float .f64 x) w := by
 have u := run_underlying Tryz.underlying44;have u2 := run_underlying Tryz.underlying42;simp [Instr.field, u, part, asAgg]
theorem yN8 (n : Nat) (c : ContT) (a : Option Addr) (cap : Nat) (w : World) (hsm : yQE c.t) (hin : ArgsIn w n (.slice a c.t.args.length cap) c.t.args) :
    Calls Tryz.prog 49 #[jEC c a c.t.args.length cap] w (GCopyR c n w) := by
 have HSM := h_ hsm;have HIN := h_ hin;have HF := h_ (zkM n);obtain ⟨B, hB⟩ := e_ w.heap.size;obtain ⟨w0, hw0⟩ := e_ (w.alloc (.cells (rQ c (.slice a c.t.args.length cap)) 51));have hs0 : w0.heap.size = B + 1 := by rw [<- hw0, <- hB]; simp
 have hb0 : w0.heap[B]? = some (.cells (rQ c (.slice a c.t.args.length cap)) 51 (0, 0)) := (by rw [<- hw0, <- hB]; exact (a_ w _).1);have hx0 : Xt w w0 := by rw [<- hw0]; exact (Xt.refl w).alloc _
 obtain ⟨wS, hwS⟩ := e_ (w0.alloc (.cells zC 51));have hxS : Xt w wS := by rw [<- hwS]; exact hx0.alloc _
 have hbS : wS.heap[B]? = some (.cells (rQ c (.slice a c.t.args.length cap)) 51 (0, 0)) := by rw [<- hwS]; exact (Below.heap_alloc w0 _ B (by omega)).trans hb0
 have hrS : wS.heap[B + 1]? = some (.cells zC 51 (0, 0)) := (by rw [<- hwS, <- hs0]; exact (a_ w0 _).1);have hsS : B + 1 < wS.heap.size := (g_ hrS).1;have HB := h_ hB;have HXS := h_ hxS;have HBS := h_ hbS;have HRS := h_ hrS;obtain ⟨c0, c1, c2, c3, c4, c5, c6, c7, c8, c9, c10, c11, c12, c13, c14, c15, c16, c17, c18, c19, c20⟩ := jMA hbS
 clear hsm hin hxS hbS hrS hx0 hb0;generalize hQ : GCopyR c n w = Q;go_enter Tryz.func49, Tryz.ntmps49;have hHs : w.heap.size = B := hB
 go_wp2_with (refine (jpM _ _).mono ?_; rintro e w1 ⟨rfl, hg1⟩
              have hb1 := (hg1.below.block B (by omega)).trans HBS.out;have hr1 := (hg1.below.block (B + 1) hsS).trans HRS.out;have hx1 := hg1.xt;obtain ⟨d0, d1, d2, d3, d4, d5, d6, d7, d8, d9, d10, d11, d12, d13, d14, d15, d16, d17, d18, d19, d20⟩ := jMA hb1;obtain ⟨f0, f1, f2, f3, f4, f5, f6, f7, f8, f9, f10, f11, f12, f13, f14, f15, f16, f17, f18, f19, f20⟩ := jLq hb1)
 obtain ⟨w2, hw2⟩ := e_ (w1.setCell ⟨B, 2, none⟩ (.float .f64 (oneX c.v.x)));rw [hw2];have hb2 : w2.heap[B]? = some (.cells #[c.kind, c.v.kind, .float .f64 (oneX c.v.x), .string c.v.s, c.v.b, c.v.f, c.t.kind, c.t.op, .float .f64 c.t.x, .string c.t.s, c.t.b, c.t.f, c.t.ref.a.1, c.t.ref.a.2, .bool c.t.ref.cf, .bool c.t.ref.rf, c.t.to.a.1, c.t.to.a.2, .bool c.t.to.cf, .bool c.t.to.rf, .slice a c.t.args.length cap] 51 (0, 0)) := by rw [<- hw2]; have := ysv hb1 2 (.float .f64 (oneX c.v.x)); simpa using this
 have hr2 : w2.heap[B + 1]? = some (.cells zC 51 (0, 0)) := (by rw [<- hw2]; exact (s_ _ _ _ _ (by show B + 1 ≠ B; omega)).trans hr1);have hx2 : Xt w w2 := (by rw [<- hw2]; exact (HXS.out.trans hx1).grownB (yiv _ _ _ _) (fun m hm => by cases hm; omega));have hs2 : B + 1 < w2.heap.size := (g_ hr2).1
 clear c0 c1 c2 c3 c4 c5 c6 c7 c8 c9 c10 c11 c12 c13 c14 c15 c16 c17 c18 c19 c20 d0 d1 d2 d3 d4 d5 d6 d7 d8 d9 d10 d11 d12 d13 d14 d15 d16 d17 d18 d19 d20 f0 f1 f2 f3 f4 f5 f6 f7 f8 f9 f10 f11 f12 f13 f14 f15 f16 f17 f18 f19 f20 hb1 hr1 hg1 hx1 hw2;refine (HF.out c.t a cap w2 HSM.out (HIN.out.xt hx2)).mono ?_;rintro e w3 ⟨a', rfl, hA, hx3⟩;have hb3 := (hx3.block B (by omega)).trans hb2;have hr3 := (hx3.block (B + 1) hs2).trans hr2;have HX3 := h_ hx3;have HA := h_ hA;have HX2 := h_ hx2
 obtain ⟨w4, hw4⟩ := e_ (w3.setCells B 6 [.int .i64 c.t.kind, .int .i64 c.t.op, .float .f64 (oneX c.t.x), .string c.t.s, .bool c.t.b, .int .i64 c.t.f, .int .i64 c.t.ref.a.1, .int .i64 c.t.ref.a.2, .bool c.t.ref.cf, .bool c.t.ref.rf, .int .i64 c.t.to.a.1, .int .i64 c.t.to.a.2, .bool c.t.to.cf, .bool c.t.to.rf, .slice a' c.t.args.length c.t.args.length]);have hg4 : w3.grownBy w4 (some B) := by rw [<- hw4]; exact jRE B _ 6 w3
 have hb4 := yZ5 (u0 := .int .i64 c.t.kind) (u1 := .int .i64 c.t.op) (u2 := .float .f64 (oneX c.t.x)) (u3 := .string c.t.s) (u4 := .bool c.t.b) (u5 := .int .i64 c.t.f) (u6 := .int .i64 c.t.ref.a.1) (u7 := .int .i64 c.t.ref.a.2) (u8 := .bool c.t.ref.cf) (u9 := .bool c.t.ref.rf) (u10 := .int .i64 c.t.to.a.1) (u11 := .int .i64 c.t.to.a.2) (u12 := .bool c.t.to.cf) (u13 := .bool c.t.to.rf) (u14 := .slice a' c.t.args.length c.t.args.length) hb3;rw [hw4] at hb4;have hr4 := (hg4.block (B + 1) (g_ hr3).1 (by simp)).trans hr3
 obtain ⟨w5, hw5⟩ := e_ (w4.setRow (B + 1) #[.int .i64 c.kind, .int .i64 c.v.kind, .float .f64 (oneX c.v.x), .string c.v.s, .bool c.v.b, .int .i64 c.v.f, .int .i64 c.t.kind, .int .i64 c.t.op, .float .f64 (oneX c.t.x), .string c.t.s, .bool c.t.b, .int .i64 c.t.f, .int .i64 c.t.ref.a.1, .int .i64 c.t.ref.a.2, .bool c.t.ref.cf, .bool c.t.ref.rf, .int .i64 c.t.to.a.1, .int .i64 c.t.to.a.2, .bool c.t.to.cf, .bool c.t.to.rf, .slice a' c.t.args.length c.t.args.length]);have hg5 : w4.grownBy w5 (some (B + 1)) := by rw [<- hw5]; exact jGX _ _ _
 have hr5 : w5.heap[B + 1]? = some (.cells #[c.kind, c.v.kind, .float .f64 (oneX c.v.x), .string c.v.s, c.v.b, c.v.f, c.t.kind, c.t.op, .float .f64 (oneX c.t.x), .string c.t.s, c.t.b, c.t.f, c.t.ref.a.1, c.t.ref.a.2, .bool c.t.ref.cf, .bool c.t.ref.rf, c.t.to.a.1, c.t.to.a.2, .bool c.t.to.cf, .bool c.t.to.rf, .slice a' c.t.args.length c.t.args.length] 51 (0, 0)) := (by rw [<- hw5]; exact setRow_heap w4 (B + 1) _ _ _ _ hr4);have HG4 := h_ hg4;have HG5 := h_ hg5;have HR5 := h_ hr5;have hs3 : B + 1 < w3.heap.size := (g_ hr3).1
 have hth := h_ (y7R hb3 6 15 (by simp));have HW4 := h_ hw4;have HW5 := h_ hw5;have HB4 := h_ hb4;have HR4 := h_ hr4;clear hb2 hr2 hx2 hb3 hr3 hx3 hA hw4 hb4 hr4 hw5 hg4 hg5 hr5;go_wp2_with (first
  | (refine wpList_store_mid (P := Tryz.prog) rfl 49 _ _ rfl B 6 #[.int .i64 c.t.kind, .int .i64 c.t.op, .float .f64 (oneX c.t.x), .string c.t.s, .bool c.t.b, .int .i64 c.t.f, .int .i64 c.t.ref.a.1, .int .i64 c.t.ref.a.2, .bool c.t.ref.cf, .bool c.t.ref.rf, .int .i64 c.t.to.a.1, .int .i64 c.t.to.a.2, .bool c.t.to.cf, .bool c.t.to.rf, .slice a' c.t.args.length c.t.args.length] rfl rfl hth.out (by kernel_rfl) (by simp [Value.oneCell']) ?_; rw [HW4.out])
  | (refine x_ (P := Tryz.prog) rfl 51 _ rfl B rfl 51 _ (0, 0) _ HB4.out Tryz.underlying51 rfl (by kernel_rfl) ?_)
  | (refine w_ (P := Tryz.prog) rfl 51 _ _ rfl (B + 1) #[.int .i64 c.kind, .int .i64 c.v.kind, .float .f64 (oneX c.v.x), .string c.v.s, .bool c.v.b, .int .i64 c.v.f, .int .i64 c.t.kind, .int .i64 c.t.op, .float .f64 (oneX c.t.x), .string c.t.s, .bool c.t.b, .int .i64 c.t.f, .int .i64 c.t.ref.a.1, .int .i64 c.t.ref.a.2, .bool c.t.ref.cf, .bool c.t.ref.rf, .int .i64 c.t.to.a.1, .int .i64 c.t.to.a.2, .bool c.t.to.cf, .bool c.t.to.rf, .slice a' c.t.args.length c.t.args.length] rfl rfl 51 _ HR4.out (by kernel_rfl) rfl (by simp [Value.oneCell']) ?_; rw [HW5.out]))
 (try simp only [Exit.inBlock, Exit.then])
 refine p_ (t_ rfl _ _ (B + 1) _ _ _ _ rfl HR5.out Tryz.underlying51 rfl (by kernel_rfl)) rfl ?_;rw [<- hQ];refine ⟨a', by rw [ysU], HA.out.keep (fun b hb hlt => ?_) (fun b o hb hlt => ?_), ?_⟩
 . have := HX2.out.sz; omega
 . have : B + 1 < b := (by omega);exact d_ (w := w3) (a := ⟨b, o, none⟩) ((HG5.out.block b (by have := HG4.out.size; omega) (fun e => by cases e; omega)).trans (HG4.out.block b hlt (fun e => by cases e; omega)))
 . exact ((HX2.out.trans HX3.out).grownB HG4.out (fun m hm => by cases hm; omega)).grownB HG5.out (fun m hm => by cases hm; omega)
def ContT.ok (c : ContT) : Prop := c.v.s.size < 4611686018427387904 /\ c.t.ok /\ c.v.x < 18446744073709551616
def yQy (c : ContT) : Bool :=
 if c.kind == 0 then yDi c.v && z88 c.t
 else if c.kind == 1 then z88 c.t && (c.v.kind != 0) && jWy c.v
 else if c.kind == 2 then yDi c.v && ywH c.t == 0
 else false
theorem jmY (n : Nat) (c : ContT) (a : Option Addr) (cap : Nat) (w : World) (hok : c.ok) (hT : Tabs w) (hin : ArgsIn w n (.slice a c.t.args.length cap) c.t.args) (h0 : (c.kind == 0) = true) :
    Calls Tryz.prog 62 #[jEC c a c.t.args.length cap] w fun e w' => e = .returned (.bool (yDi c.v && z88 c.t)) /\ Xt w w' := by
 obtain ⟨w0, hw0, hg0, hs0, hC⟩ := boxC w c a c.t.args.length cap 51;have HG0 := h_ hg0.xt;have HC := h_ hC;have HOK := h_ hok;have HT := h_ hT;have HIN := h_ hin;obtain ⟨c0, c1, c2, c3, c4, c5, c6, c7, c8, c9, c10, c11, c12, c13, c14, c15, c16, c17, c18, c19, c20⟩ := hC;simp only [Nat.zero_add] at c0 c1 c2 c3 c4 c5 c6 c7 c8 c9 c10 c11 c12 c13 c14 c15 c16 c17 c18 c19 c20;clear hg0 hok hT hin;have H1 := h_ (yVm c.v w0);have H2 := h_ (zOj c.t a cap);generalize yDi c.v = r1 at H1 ⊢;generalize z88 c.t = r2 at H2 ⊢;go_enter Tryz.func62, Tryz.ntmps62;go_wp2_with fail;refine (H1.out).mono ?_;rintro e w1 ⟨rfl, hg⟩
 have HG1 := h_ (HG0.out.trans hg.xt);have hC1 := HC.out.xt hg.xt;have HC1 := h_ hC1;clear hg c0 c1 c2 c3 c4 c5 c6 c7 c8 c9 c10 c11 c12 c13 c14 c15 c16 c17 c18 c19 c20;obtain ⟨c0, c1, c2, c3, c4, c5, c6, c7, c8, c9, c10, c11, c12, c13, c14, c15, c16, c17, c18, c19, c20⟩ := hC1;simp only [Nat.zero_add] at c0 c1 c2 c3 c4 c5 c6 c7 c8 c9 c10 c11 c12 c13 c14 c15 c16 c17 c18 c19 c20;clear hw0;cases r1 with
 | false =>
  go_wp2_with fail;go_ret;exact ⟨rfl, HG1.out⟩
 | true =>
  go_wp2_with fail;refine (H2.out _).mono ?_;rintro e w2 ⟨rfl, hg⟩;have HG2 := h_ (HG1.out.trans hg.xt);have hC2 := HC1.out.xt hg.xt;have HC2 := h_ hC2;clear hg c0 c1 c2 c3 c4 c5 c6 c7 c8 c9 c10 c11 c12 c13 c14 c15 c16 c17 c18 c19 c20;obtain ⟨c0, c1, c2, c3, c4, c5, c6, c7, c8, c9, c10, c11, c12, c13, c14, c15, c16, c17, c18, c19, c20⟩ := hC2;simp only [Nat.zero_add] at c0 c1 c2 c3 c4 c5 c6 c7 c8 c9 c10 c11 c12 c13 c14 c15 c16 c17 c18 c19 c20;cases r2 with
  | false =>
   go_wp2_with fail;go_ret;exact ⟨rfl, HG2.out⟩
  | true =>
   go_wp2_with fail;go_ret;exact ⟨rfl, HG2.out⟩
theorem zav (n : Nat) (c : ContT) (a : Option Addr) (cap : Nat) (w : World) (hok : c.ok) (hT : Tabs w) (hin : ArgsIn w n (.slice a c.t.args.length cap) c.t.args) (h0 : (c.kind == 0) = false) (h1 : (c.kind == 1) = true) :
    Calls Tryz.prog 62 #[jEC c a c.t.args.length cap] w fun e w' => e = .returned (.bool (z88 c.t && (c.v.kind != 0) && jWy c.v)) /\ Xt w w' := by
 obtain ⟨w0, hw0, hg0, hs0, hC⟩ := boxC w c a c.t.args.length cap 51;have HG0 := h_ hg0.xt;have HC := h_ hC;have HOK := h_ hok;have HT := h_ hT;have HIN := h_ hin;obtain ⟨c0, c1, c2, c3, c4, c5, c6, c7, c8, c9, c10, c11, c12, c13, c14, c15, c16, c17, c18, c19, c20⟩ := hC;simp only [Nat.zero_add] at c0 c1 c2 c3 c4 c5 c6 c7 c8 c9 c10 c11 c12 c13 c14 c15 c16 c17 c18 c19 c20;clear hg0 hok hT hin;have H1 := h_ (zOj c.t a cap w0);generalize z88 c.t = r1 at H1 ⊢;generalize hr2 : (c.v.kind != 0) = r2;generalize hr3 : jWy c.v = r3;have HR3 := h_ hr3;clear hr3;go_enter Tryz.func62, Tryz.ntmps62;go_wp2_with fail;refine (H1.out).mono ?_
 rintro e w1 ⟨rfl, hg⟩;have HG1 := h_ (HG0.out.trans hg.xt);have hC1 := HC.out.xt hg.xt;have HC1 := h_ hC1;clear hg c0 c1 c2 c3 c4 c5 c6 c7 c8 c9 c10 c11 c12 c13 c14 c15 c16 c17 c18 c19 c20;obtain ⟨c0, c1, c2, c3, c4, c5, c6, c7, c8, c9, c10, c11, c12, c13, c14, c15, c16, c17, c18, c19, c20⟩ := hC1;simp only [Nat.zero_add] at c0 c1 c2 c3 c4 c5 c6 c7 c8 c9 c10 c11 c12 c13 c14 c15 c16 c17 c18 c19 c20;clear hw0;cases r1 with
 | false =>
  go_wp2_with fail;go_ret;exact ⟨rfl, HG1.out⟩
 | true =>
  cases r2 with
  | false =>
   go_wp2_with fail;go_ret;exact ⟨rfl, HG1.out⟩
  | true =>
   have H3 := h_ (jIe c.v w1 (by have := HOK.out.1; omega) (HT.out.xt HG1.out));rw [HR3.out] at H3;go_wp2_with fail;refine (H3.out).mono ?_;rintro e w2 ⟨rfl, hg⟩;have HG2 := h_ (HG1.out.trans hg);have hC2 := HC1.out.xt hg;have HC2 := h_ hC2;clear hg c0 c1 c2 c3 c4 c5 c6 c7 c8 c9 c10 c11 c12 c13 c14 c15 c16 c17 c18 c19 c20;obtain ⟨c0, c1, c2, c3, c4, c5, c6, c7, c8, c9, c10, c11, c12, c13, c14, c15, c16, c17, c18, c19, c20⟩ := hC2;simp only [Nat.zero_add] at c0 c1 c2 c3 c4 c5 c6 c7 c8 c9 c10 c11 c12 c13 c14 c15 c16 c17 c18 c19 c20;cases r3 with
   | false =>
    go_wp2_with fail;go_ret;exact ⟨rfl, HG2.out⟩
   | true =>
    go_wp2_with fail;go_ret;exact ⟨rfl, HG2.out⟩
theorem yMv (n : Nat) (c : ContT) (a : Option Addr) (cap : Nat) (w : World) (hok : c.ok) (hT : Tabs w) (hin : ArgsIn w n (.slice a c.t.args.length cap) c.t.args) (h0 : (c.kind == 0) = false) (h1 : (c.kind == 1) = false) (h2 : (c.kind == 2) = true) :
    Calls Tryz.prog 62 #[jEC c a c.t.args.length cap] w fun e w' => e = .returned (.bool (yDi c.v && ywH c.t == 0)) /\ Xt w w' := by
 obtain ⟨w0, hw0, hg0, hs0, hC⟩ := boxC w c a c.t.args.length cap 51;have HG0 := h_ hg0.xt;have HC := h_ hC;have HOK := h_ hok;have HT := h_ hT;have HIN := h_ hin;obtain ⟨c0, c1, c2, c3, c4, c5, c6, c7, c8, c9, c10, c11, c12, c13, c14, c15, c16, c17, c18, c19, c20⟩ := hC;simp only [Nat.zero_add] at c0 c1 c2 c3 c4 c5 c6 c7 c8 c9 c10 c11 c12 c13 c14 c15 c16 c17 c18 c19 c20;clear hg0 hok hT hin;have H1 := h_ (yVm c.v w0);generalize yDi c.v = r1 at H1 ⊢;generalize hr2 : ywH c.t = r2;generalize hz : (r2 == 0) = rz;have HR2 := h_ hr2;clear hr2;go_enter Tryz.func62, Tryz.ntmps62;go_wp2_with fail;refine (H1.out).mono ?_;rintro e w1 ⟨rfl, hg⟩
 have HG1 := h_ (HG0.out.trans hg.xt);have hC1 := HC.out.xt hg.xt;have HC1 := h_ hC1;clear hg c0 c1 c2 c3 c4 c5 c6 c7 c8 c9 c10 c11 c12 c13 c14 c15 c16 c17 c18 c19 c20;obtain ⟨c0, c1, c2, c3, c4, c5, c6, c7, c8, c9, c10, c11, c12, c13, c14, c15, c16, c17, c18, c19, c20⟩ := hC1;simp only [Nat.zero_add] at c0 c1 c2 c3 c4 c5 c6 c7 c8 c9 c10 c11 c12 c13 c14 c15 c16 c17 c18 c19 c20;clear hw0;cases r1 with
 | false =>
  go_wp2_with fail;go_ret;exact ⟨rfl, HG1.out⟩
 | true =>
  have H2 := h_ (znR n c.t a cap w1 HOK.out.2.1 (HT.out.xt HG1.out) (HIN.out.xt HG1.out));rw [HR2.out] at H2;go_wp2_with fail;refine (H2.out).mono ?_;rintro e w2 ⟨rfl, hg⟩;have HG2 := h_ (HG1.out.trans hg);have hC2 := HC1.out.xt hg;have HC2 := h_ hC2;clear hg c0 c1 c2 c3 c4 c5 c6 c7 c8 c9 c10 c11 c12 c13 c14 c15 c16 c17 c18 c19 c20;obtain ⟨c0, c1, c2, c3, c4, c5, c6, c7, c8, c9, c10, c11, c12, c13, c14, c15, c16, c17, c18, c19, c20⟩ := hC2;simp only [Nat.zero_add] at c0 c1 c2 c3 c4 c5 c6 c7 c8 c9 c10 c11 c12 c13 c14 c15 c16 c17 c18 c19 c20;cases rz with
  | false =>
   go_wp2_with fail;go_ret;exact ⟨rfl, HG2.out⟩
  | true =>
   go_wp2_with fail;go_ret;exact ⟨rfl, HG2.out⟩
theorem zrT (n : Nat) (c : ContT) (a : Option Addr) (cap : Nat) (w : World) (hok : c.ok) (hT : Tabs w) (hin : ArgsIn w n (.slice a c.t.args.length cap) c.t.args) (h0 : (c.kind == 0) = false) (h1 : (c.kind == 1) = false) (h2 : (c.kind == 2) = false) :
    Calls Tryz.prog 62 #[jEC c a c.t.args.length cap] w fun e w' => e = .returned (.bool (false)) /\ Xt w w' := by
 obtain ⟨w0, hw0, hg0, hs0, hC⟩ := boxC w c a c.t.args.length cap 51;have HG0 := h_ hg0.xt;have HC := h_ hC;have HOK := h_ hok;have HT := h_ hT;have HIN := h_ hin;obtain ⟨c0, c1, c2, c3, c4, c5, c6, c7, c8, c9, c10, c11, c12, c13, c14, c15, c16, c17, c18, c19, c20⟩ := hC;simp only [Nat.zero_add] at c0 c1 c2 c3 c4 c5 c6 c7 c8 c9 c10 c11 c12 c13 c14 c15 c16 c17 c18 c19 c20;clear hg0 hok hT hin;go_enter Tryz.func62, Tryz.ntmps62;go_wp2_with fail;go_ret;exact ⟨rfl, HG0.out⟩
theorem yMx (n : Nat) (c : ContT) (a : Option Addr) (cap : Nat) (w : World) (hok : c.ok) (hT : Tabs w) (hin : ArgsIn w n (.slice a c.t.args.length cap) c.t.args) :
    Calls Tryz.prog 62 #[jEC c a c.t.args.length cap] w fun e w' => e = .returned (.bool (yQy c)) /\ Xt w w' := by
 unfold yQy;by_cases h0 : (c.kind == 0) = true
 . rw [if_pos h0]; exact jmY n c a cap w hok hT hin h0
 rw [if_neg h0];have h0 := Bool.eq_false_iff.2 h0;by_cases h1 : (c.kind == 1) = true
 . rw [if_pos h1]; exact zav n c a cap w hok hT hin h0 h1
 rw [if_neg h1];have h1 := Bool.eq_false_iff.2 h1;by_cases h2 : (c.kind == 2) = true
 . rw [if_pos h2]; exact yMv n c a cap w hok hT hin h0 h1 h2
 rw [if_neg h2];exact zrT n c a cap w hok hT hin h0 h1 (Bool.eq_false_iff.2 h2)
def Ov (S : Nat -> Prop) (w : World) : Nat -> Value -> Prop
 | 0, av => ∃ a, av = .slice a 0 0
 | n + 1, av => ∃ a m cap, av = .slice a m cap /\ m <= cap /\ m <= 1099511627744 /\ cap <= 9223372036854775807 /\ (0 < cap -> ∃ b cur K, a = some ⟨b, 0, none⟩ /\ S b /\ r_ w b cur 49 /\ cur.size = K * 15 /\ cap <= K /\
     ∀ k, k < m -> ∃ u av', (∀ i v, (nodeC u av')[i]? = some v -> w.cell? ⟨b, k * 15 + i, none⟩ = some v) /\ Ov S w n av')
theorem Ov.nil {S : Nat -> Prop} {w : World} {a : Option Addr} : ∀ n, Ov S w n (.slice a 0 0)
 | 0 => ⟨a, rfl⟩
 | _ + 1 => ⟨a, 0, 0, rfl, Nat.le_refl _, by omega, by omega, fun h => absurd h (Nat.lt_irrefl _)⟩
theorem Ov.shape {S : Nat -> Prop} {w : World} {n : Nat} {av : Value} (h : Ov S w n av) : ∃ a m cap, av = .slice a m cap /\ m <= cap /\ m <= 1099511627744 /\ cap <= 9223372036854775807 := by
 cases n with
 | zero => obtain ⟨a, rfl⟩ := h; exact ⟨a, 0, 0, rfl, Nat.le_refl _, by omega, by omega⟩
 | succ n => obtain ⟨a, m, cap, rfl, h1, h2, h3, _⟩ := h; exact ⟨a, m, cap, rfl, h1, h2, h3⟩
structure OvW (S : Nat -> Prop) (w w' : World) : Prop where
 os : w'.os = w.os
 tape : w'.tape = w.tape
 output : w'.output = w.output
 size : w.heap.size <= w'.heap.size
 block : ∀ b, b < w.heap.size -> ¬ S b -> w'.heap[b]? = w.heap[b]?
 keep : ∀ n av, Ov S w n av -> Ov S w' n av
theorem OvW.trans {S : Nat -> Prop} {a b c : World} (h : OvW S a b) (k : OvW S b c) : OvW S a c :=
 ⟨k.os.trans h.os, k.tape.trans h.tape, k.output.trans h.output, Nat.le_trans h.size k.size, fun i hi hn => (k.block i (Nat.lt_of_lt_of_le hi h.size) hn).trans (h.block i hi hn), fun n av q => k.keep n av (h.keep n av q)⟩
theorem Ov.of_heap {S : Nat -> Prop} {w w' : World} (hk : ∀ b, S b -> b < w.heap.size -> w'.heap[b]? = w.heap[b]?) : ∀ {n : Nat} {av : Value}, Ov S w n av -> Ov S w' n av
 | 0, _, h => h
 | n + 1, _, h => by
  obtain ⟨a, m, cap, rfl, h1, h2, h4, h3⟩ := h;refine ⟨a, m, cap, rfl, h1, h2, h4, fun hpos => ?_⟩;obtain ⟨b, cur, K, rfl, hb, hr, hK, hcK, hc⟩ := h3 hpos;have hlt : b < w.heap.size := (g_ hr).1;exact ⟨b, cur, K, rfl, hb, (hk b hb hlt).trans hr, hK, hcK, fun k hkm => let ⟨u, av', q1, q2⟩ := hc k hkm; ⟨u, av', fun i v hv => (d_ (w := w) (a := ⟨b, k * 15 + i, none⟩) (hk b hb hlt)).trans (q1 i v hv), Ov.of_heap hk q2⟩⟩
theorem OvW.of_xt {S : Nat -> Prop} {w w' : World} (h : Xt w w') : OvW S w w' :=
 ⟨h.os, h.tape, h.output, h.size, fun b hb _ => h.block b hb, fun _ _ q => q.of_heap (fun b _ hb => h.block b hb)⟩
theorem yz6 {T : TypeId} (b : Nat) : ∀ (vs : List Value) (o : Nat) (w : World) (cur : Array Value), w.heap[b]? = some (.cells cur T (0, 0)) -> ∃ cur', (w.setCells b o vs).heap[b]? = some (.cells cur' T (0, 0)) /\ cur'.size = cur.size
 | [], _, _, cur, h => ⟨cur, h, rfl⟩
 | v :: r, o, w, cur, h => by
  rw [World.setCells];obtain ⟨cur', h1, h2⟩ := yz6 b r (o + 1) _ _ (heap_setCell_same w b o cur T v h);exact ⟨cur', h1, by simpa using h2⟩
theorem yvz (b : Nat) : ∀ (vs : List Value) (o : Nat) (w : World) (k : Nat), k ≠ b -> (w.setCells b o vs).heap[k]? = w.heap[k]?
 | [], _, _, _, _ => rfl
 | v :: r, o, w, k, h => by
  rw [World.setCells];exact (yvz b r (o + 1) _ k h).trans (s_ _ _ _ _ h)
theorem yrR (b : Nat) : ∀ (vs : List Value) (o : Nat) (w : World), (w.setCells b o vs).heap.size = w.heap.size /\ (w.setCells b o vs).os = w.os /\ (w.setCells b o vs).tape = w.tape /\ (w.setCells b o vs).output = w.output
 | [], _, _ => ⟨rfl, rfl, rfl, rfl⟩
 | v :: r, o, w => by
  rw [World.setCells];obtain ⟨h1, h2, h3, h4⟩ := yrR b r (o + 1) (w.setCell ⟨b, o, none⟩ v);exact ⟨h1.trans (by simp), h2, h3, h4⟩
def leafT (k : Int) (s : ByteArray) : NodeT := .mk k 0 0 s false 0 zR zR []
theorem Ov.written {S : Nat -> Prop} {w : World} {b k : Nat} {u : NodeT} {av0 : Value} {w' : World} (hav : ∀ n, Ov S w n (.slice none 0 0))
    (hfar : ∀ j, j ≠ b -> w'.heap[j]? = w.heap[j]?) (hrow : ∀ cur, w.heap[b]? = some (.cells cur 49 (0, 0)) -> ∃ cur', r_ w' b cur' 49 /\ cur'.size = cur.size)
    (hel : ∀ (k' : Nat) (u' : NodeT) (av' : Value), (∀ i v, (nodeC u' av')[i]? = some v -> w.cell? ⟨b, k' * 15 + i, none⟩ = some v) -> ∃ u2, (∀ i v, (nodeC u2 av')[i]? = some v -> w'.cell? ⟨b, k' * 15 + i, none⟩ = some v) \/ (∀ i v, (nodeC u2 (.slice none 0 0))[i]? = some v -> w'.cell? ⟨b, k' * 15 + i, none⟩ = some v)) : ∀ {n : Nat} {av : Value}, Ov S w n av -> Ov S w' n av
 | 0, _, h => h
 | n + 1, _, h => by
  obtain ⟨a, m, cap, rfl, h1, h2, h4, h3⟩ := h;refine ⟨a, m, cap, rfl, h1, h2, h4, fun hpos => ?_⟩;obtain ⟨b', cur, K, rfl, hb, hr, hK, hcK, hc⟩ := h3 hpos;by_cases e : b' = b
  . subst e;obtain ⟨cur', hr', hs'⟩ := hrow cur hr;refine ⟨b', cur', K, rfl, hb, hr', hs'.trans hK, hcK, fun k' hk' => ?_⟩;obtain ⟨u', av', q1, q2⟩ := hc k' hk';obtain ⟨u2, q | q⟩ := hel k' u' av' q1
    . exact ⟨u2, av', q, Ov.written (k := k) (u := u) (av0 := av0) hav hfar hrow hel q2⟩
    . exact ⟨u2, _, q, Ov.nil n⟩
  . exact ⟨b', cur, K, rfl, hb, (hfar b' e).trans hr, hK, hcK, fun k' hk' => let ⟨u', av', q1, q2⟩ := hc k' hk'; ⟨u', av', fun i v hv => (d_ (w := w) (a := ⟨b', k' * 15 + i, none⟩) (hfar b' e)).trans (q1 i v hv), Ov.written (k := k) (u := u) (av0 := av0) hav hfar hrow hel q2⟩⟩
theorem yFI {w : World} {b k K : Nat} {cur : Array Value} {T : TypeId} (hr : w.heap[b]? = some (.cells cur T (0, 0))) (hK : cur.size = K * 15) (hk : k < K) : w.there b (k * 15) 15 := fun j hj => by
 have hlt : k * 15 + j < cur.size := (by omega);constructor
 . have : w.cell? ⟨b, k * 15 + j, none⟩ = cur[k * 15 + j]? := (by simp [World.cell?, hr]);rw [this, Array.getElem?_eq_getElem hlt]; rfl
 . simp [World.frozen?, hr]
theorem j4D (u : NodeT) (av : Value) : (nodeC u av).length = 15 := rfl
theorem OvW.store {S : Nat -> Prop} {w : World} {b k K : Nat} {cur : Array Value} (hS : S b) (hr : w.heap[b]? = some (.cells cur 49 (0, 0))) (hK : cur.size = K * 15) (hk : k < K) (u : NodeT) : OvW S w (w.setCells b (k * 15) (nodeC u (.slice none 0 0))) := by
 obtain ⟨s1, s2, s3, s4⟩ := yrR b (nodeC u (.slice none 0 0)) (k * 15) w;have ht := yFI hr hK hk;refine ⟨s2, s3, s4, by omega, fun j _ hn => yvz b _ _ w j (fun e => hn (e ▸ hS)), fun n av h => Ov.written (k := k) (u := u) (av0 := .slice none 0 0) (fun _ => Ov.nil _) (fun j hj => yvz b _ _ w j hj) (fun cur h => yz6 b _ _ w cur h) (fun k' u' av' q => ?_) h⟩;by_cases e : k' = k
 . subst e;exact ⟨u, Or.inr (World.rangeAt_setCells_same w b (k' * 15) _ ht)⟩
 . refine ⟨u', Or.inl (fun i v hv => World.rangeAt_setCells_apart (b' := b) (o' := k' * 15) (cs := nodeC u' av') q b (k * 15) _ ?_ i v hv)⟩;right; rw [j4D, j4D]; omega
theorem OvW.kind {S : Nat -> Prop} {w : World} {b k K : Nat} {cur : Array Value} (hS : S b) (hr : w.heap[b]? = some (.cells cur 49 (0, 0))) (hK : cur.size = K * 15) (hk : k < K) (z : Int) : OvW S w (w.setCell ⟨b, k * 15, none⟩ (.int .i64 z)) := by
 have ht := yFI hr hK hk;refine ⟨rfl, rfl, rfl, by simp, fun j _ hn => s_ _ _ _ _ (fun e => hn (e ▸ hS)), fun n av h => Ov.written (k := k) (u := leafT 0 ⟨#[]⟩) (av0 := .slice none 0 0) (fun _ => Ov.nil _) (fun j hj => s_ _ _ _ _ hj) (fun cur h => ⟨_, heap_setCell_same w b (k * 15) cur _ _ h, by simp⟩) (fun k' u' av' q => ?_) h⟩;by_cases e : k' = k
 . subst e;obtain ⟨kk, o, x, s, bb, f, r, g, l⟩ := u';refine ⟨.mk z o x s bb f r g l, Or.inl (fun i v hv => ?_)⟩;by_cases h0 : i = 0
   . subst h0;obtain ⟨y, hy⟩ := Option.isSome_iff_exists.1 (ht 0 (by omega)).1;have : v = .int .i64 z := (by simpa [nodeC, NodeT.kind] using hv.symm);rw [this];exact k_ w _ _ hy
   . rw [o_ w _ _ _ (fun e => by have := congrArg Addr.off e; simp at this; omega)];refine q i v ?_;rw [<- hv];obtain ⟨j, rfl⟩ : ∃ j, i = j + 1 := ⟨i - 1, by omega⟩;rfl
 . refine ⟨u', Or.inl (fun i v hv => ?_)⟩;have hi : i < 15 := (List.getElem?_eq_some_iff.1 hv).1;rw [o_ w _ _ _ (fun e2 => by have := congrArg Addr.off e2; simp at this; omega)];exact q i v hv
def arOf (r q : RefT) : ArT := ⟨r.a.1, r.a.2, q.a.1, q.a.2⟩
def lostT : NodeT := .mk 4 0 0 ⟨#[]⟩ false 4 zR zR []
def yip (cG : Ad -> Ad × Bool) (aG : ArT -> ArT × Bool) : NodeT -> NodeT
 | .mk k o x s b f r q l =>
  if k = 5 then (if (cG r.a).2 = true then .mk k o x s b f ⟨(cG r.a).1, r.cf, r.rf⟩ q l else lostT)
  else if k = 6 then (if (aG (arOf r q)).2 = true then .mk k o x s b f ⟨((aG (arOf r q)).1.a, (aG (arOf r q)).1.b), r.cf, r.rf⟩ ⟨((aG (arOf r q)).1.c, (aG (arOf r q)).1.d), q.cf, q.rf⟩ l else lostT)
  else .mk k o x s b f r q l
mutual
def jNY (cG : Ad -> Ad × Bool) (aG : ArT -> ArT × Bool) : NodeT -> NodeT
 | .mk k o x s b f r q l => yip cG aG (.mk k o x s b f r q (jWC cG aG l))
def jWC (cG : Ad -> Ad × Bool) (aG : ArT -> ArT × Bool) : List NodeT -> List NodeT
 | [] => []
 | t :: l => jNY cG aG t :: jWC cG aG l
end
theorem y35 (cG : Ad -> Ad × Bool) (aG : ArT -> ArT × Bool) : ∀ l : List NodeT, jWC cG aG l = l.map (jNY cG aG)
 | [] => rfl
 | t :: l => by rw [jWC, y35 cG aG l]; rfl
def y43 : NodeT -> List NodeT -> NodeT
 | .mk k o x s b f r q _, l => .mk k o x s b f r q l
theorem jlI (cG : Ad -> Ad × Bool) (aG : ArT -> ArT × Bool) (t : NodeT) : jNY cG aG t = yip cG aG (y43 t (t.args.map (jNY cG aG))) := by
 obtain ⟨k, o, x, s, b, f, r, q, l⟩ := t;rw [jNY, y35]; rfl
structure Wr (S : Nat -> Prop) (w w' : World) : Prop where
 os : w'.os = w.os
 tape : w'.tape = w.tape
 output : w'.output = w.output
 size : w.heap.size <= w'.heap.size
 block : ∀ b, b < w.heap.size -> ¬ S b -> w'.heap[b]? = w.heap[b]?
theorem Wr.refl (S : Nat -> Prop) (w : World) : Wr S w w := ⟨rfl, rfl, rfl, Nat.le_refl _, fun _ _ _ => rfl⟩
theorem Wr.trans {S : Nat -> Prop} {a b c : World} (h : Wr S a b) (k : Wr S b c) : Wr S a c :=
 ⟨k.os.trans h.os, k.tape.trans h.tape, k.output.trans h.output, Nat.le_trans h.size k.size, fun i hi hn => (k.block i (Nat.lt_of_lt_of_le hi h.size) hn).trans (h.block i hi hn)⟩
theorem Wr.of_xt {S : Nat -> Prop} {w w' : World} (h : Xt w w') : Wr S w w' := ⟨h.os, h.tape, h.output, h.size, fun b hb _ => h.block b hb⟩
theorem Wr.weak {S S' : Nat -> Prop} {w w' : World} (h : Wr S w w') (hS : ∀ b, S b -> S' b) : Wr S' w w' := ⟨h.os, h.tape, h.output, h.size, fun b hb hn => h.block b hb fun q => hn (hS b q)⟩
theorem Wr.xt {S : Nat -> Prop} {w w' : World} {V : World} (h : Wr S w w') (hV : Xt V w) (hS : ∀ b, S b -> V.heap.size <= b) : Xt V w' :=
 ⟨h.os.trans hV.os, h.tape.trans hV.tape, h.output.trans hV.output, Nat.le_trans hV.size h.size, fun b hb => (h.block b (Nat.lt_of_lt_of_le hb hV.size) fun q => absurd (hS b q) (by omega)).trans (hV.block b hb)⟩
theorem Wr.set {S : Nat -> Prop} {w : World} {b o : Nat} (vs : List Value) (hb : S b) : Wr S w (w.setCells b o vs) := by
 obtain ⟨s1, s2, s3, s4⟩ := yrR b vs o w;exact ⟨s2, s3, s4, by omega, fun j _ hn => yvz b _ _ w j (fun e => hn (e ▸ hb))⟩
theorem SepIn.elem {S : Nat -> Prop} {w : World} {n i m cap : Nat} {a : Option Addr} {l : List NodeT} {t : NodeT} (h : SepIn S w n (.slice a m cap) l) (ht : l[i]? = some t) :
    ∃ n' b a' c' T, n = n' + 1 /\ a = some ⟨b, 0, none⟩ /\ S b /\ b < w.heap.size /\ (∀ c, T c -> S c /\ c ≠ b) /\ NodeAt w b (i * 15) t a' t.args.length c' /\ SepIn T w n' (.slice a' t.args.length c') t.args /\
     (∀ w2, Wr T w w2 -> w2.there b (i * 15) 15) /\
     ∀ w2 (t' : NodeT) (av2 : Value), Wr T w w2 -> SepIn T w2 n' av2 t'.args -> SepIn S (w2.setCells b (i * 15) (nodeC t' av2)) n (.slice a m cap) (l.set i t') /\ Wr S w (w2.setCells b (i * 15) (nodeC t' av2)) := by
 have hil := (List.getElem?_eq_some_iff.1 ht).1;cases n with
 | zero => obtain ⟨rfl, _⟩ := h; simp at ht
 | succ n =>
  obtain ⟨_, _, e, h1, h2, h3⟩ := h;cases e;obtain ⟨b, cur, K, T, rfl, hb, hr, hK, hcK, hT, hD, hc⟩ := h3 (by omega);obtain ⟨av', q1, q2⟩ := hc i t ht;obtain ⟨a', c', rfl, _⟩ := q2.own.shape;have hlt : b < w.heap.size := (g_ hr).1;have hnb : ¬ T i b := fun e => (hT i b e).2 rfl;refine ⟨n, b, a', c', T i, rfl, rfl, hb, hlt, fun c hc => hT i c hc, NodeAt.of q1, q2, fun w2 hw2 => yFI ((hw2.block b hlt hnb).trans hr) hK (by omega), fun w2 t' av2 hw2 hs2 => ?_⟩;have hr2 := (hw2.block b hlt hnb).trans hr;have ht2 := yFI hr2 hK (k := i) (by omega);obtain ⟨cur', hr3, hs3⟩ := yz6 b (nodeC t' av2) (i * 15) w2 cur hr2
  refine ⟨⟨_, cap, by rw [List.length_set], by rw [List.length_set]; exact h1, h2, fun _ => ⟨b, cur', K, T, rfl, hb, hr3, hs3.trans hK, hcK, hT, hD, fun k u hu => ?_⟩⟩, (hw2.weak fun c hc => (hT i c hc).1).trans (Wr.set _ hb)⟩;by_cases e : k = i
  . subst e;rw [List.getElem?_set_self hil] at hu;cases hu;exact ⟨av2, World.rangeAt_setCells_same w2 b (k * 15) _ ht2, hs2.keep (fun c hc _ => yvz b _ _ w2 c (hT k c hc).2)⟩
  . rw [List.getElem?_set_ne (fun e' => e e'.symm)] at hu;obtain ⟨av3, p1, p2⟩ := hc k u hu;have p1' : ∀ i v, (nodeC u av3)[i]? = some v -> w2.cell? ⟨b, k * 15 + i, none⟩ = some v := fun j v hv => (d_ (w := w) (a := ⟨b, k * 15 + j, none⟩) (hw2.block b hlt hnb)).trans (p1 j v hv);refine ⟨av3, fun j v hv => World.rangeAt_setCells_apart (b' := b) (o' := k * 15) (cs := nodeC u av3) p1' b (i * 15) _ ?_ j v hv, p2.keep (fun c hc hlc => (yvz b _ _ w2 c (hT k c hc).2).trans (hw2.block c hlc fun q => hD k i c e hc q))⟩;right; rw [j4D, j4D]; omega
inductive KeyC where
 | p (v : Int × KeyV) | f (t : NodeT) | o
def keyC (c : ContT) : Int × KeyC := (c.kind, if (c.kind == 1) = true then .p (keyV c.v) else if (c.kind == 2) = true then .f (copyT c.t) else .o)
noncomputable def z0G (a b : ContT) : Bool := @decide (keyC a = keyC b) (Classical.propDecidable _)
theorem zbH (a b : ContT) : z0G a b = true ↔ keyC a = keyC b := @decide_eq_true_iff _ (Classical.propDecidable _)
theorem yaM (a b : ValT) : zpY a b = true ↔ keyV a = keyV b := @decide_eq_true_iff _ (Classical.propDecidable _)
theorem jU2 {a b : ContT} (h : (a.kind == b.kind) = false) : z0G a b = false := by
 cases hs : z0G a b
 . rfl
 . have := congrArg Prod.fst ((zbH _ _).1 hs);simp only [keyC] at this;rw [this] at h; simp at h
theorem jLK {a b : ContT} (h : (a.kind == b.kind) = true) (h1 : (a.kind == 1) = true) : z0G a b = zpY a.v b.v := by
 have e := eq_of_beq h;rw [Bool.eq_iff_iff, zbH, yaM];unfold keyC;rw [<- e]; simp [h1]
theorem zrN {a b : ContT} (h : (a.kind == b.kind) = true) (h1 : (a.kind == 1) = false) (h2 : (a.kind == 2) = true) : z0G a b = jir a.t b.t := by
 have e := eq_of_beq h;rw [Bool.eq_iff_iff, zbH, zbJ];unfold keyC;rw [<- e]; simp [h1, h2]
theorem yn9 {a b : ContT} (h : (a.kind == b.kind) = true) (h1 : (a.kind == 1) = false) (h2 : (a.kind == 2) = false) : z0G a b = true := by
 have e := eq_of_beq h;rw [zbH];unfold keyC;rw [<- e]; simp [h1, h2]
mutual
def upT (h : NodeT -> NodeT) : NodeT -> NodeT
 | .mk k o x s b f r q l => h (.mk k o x s b f r q (upL h l))
def upL (h : NodeT -> NodeT) : List NodeT -> List NodeT
 | [] => []
 | t :: l => upT h t :: upL h l
end
theorem zRi (h : NodeT -> NodeT) : ∀ l : List NodeT, upL h l = l.map (upT h)
 | [] => rfl
 | t :: l => by rw [upL, zRi h l]; rfl
theorem jVB (h : NodeT -> NodeT) (l : List NodeT) : (upL h l).length = l.length := by rw [zRi]; simp
def shN (n by_ : Int) (fixed : Bool) : Int := if fixed = true then n else if 1048576 < by_ then -1 else if by_ < -1048576 then -1 else wrap64 (n + by_)
def shA (cc rr : Int) (x : RefT) : Ad := (shN x.a.1 cc x.cf, shN x.a.2 rr x.rf)
def shB (cc rr : Int) (x : RefT) : Bool := y8L x.a.1 x.a.2 && y8L (shA cc rr x).1 (shA cc rr x).2
def shR (cc rr : Int) (x : RefT) : RefT := if shB cc rr x = true then ⟨shA cc rr x, x.cf, x.rf⟩ else zR
def loR (p q : RefT) : RefT := ⟨(if q.a.1 < p.a.1 then q.a.1 else p.a.1, if q.a.2 < p.a.2 then q.a.2 else p.a.2), if q.a.1 < p.a.1 then q.cf else p.cf, if q.a.2 < p.a.2 then q.rf else p.rf⟩
def hiR (p q : RefT) : RefT := ⟨(if q.a.1 < p.a.1 then p.a.1 else q.a.1, if q.a.2 < p.a.2 then p.a.2 else q.a.2), if q.a.1 < p.a.1 then p.cf else q.cf, if q.a.2 < p.a.2 then p.rf else q.rf⟩
def shH (cc rr : Int) : NodeT -> NodeT
 | .mk k o x s b f r q l =>
  if k = 5 then (if shB cc rr r = true then .mk k o x s b f (shR cc rr r) q l else lostT)
  else if k = 6 then (if shB cc rr r = true then (if shB cc rr q = true then .mk k o x s b f (loR (shR cc rr r) (shR cc rr q)) (hiR (shR cc rr r) (shR cc rr q)) l else lostT) else lostT)
  else .mk k o x s b f r q l
end
end Go.Proofs.YtdoeejhdenifpaaGreatDoor
