import Derived.Test.YtdoeejhdenifpaaGreatDoorB34
import Derived.Deep.CutBlock
import Derived.Deep.DeepCutAuto
set_option maxRecDepth 100000
set_option maxHeartbeats 16000000
namespace Go.Proofs.YtdoeejhdenifpaaGreatDoor
section
open Go.RowKit Go.Sort Go.Maps Go.Shelf Go.MapKept
attribute [local go_sem] Oper.semAt_some
theorem jaU (f : ArT) (gb mb : Nat) (M : GM) (w : World) (hG : GridIs w gb mb M) (hT : Tabs w) (hO : GOk (er M)) (hv : ygU f.a f.b f.c f.d = true) :
    Calls Tryz.prog 29 #[v_ gb, arT f] w fun e w' => Xt w w' /\ ∃ go mo Mo, e = .returned (.tuple #[v_ go, .int .i64 0]) /\ GridIs w' go mo Mo /\ er Mo = zRj f (er M) /\ w.heap.size <= mo := by
 have HG := h_ hG;have HT := h_ hT;have HO := h_ hO;obtain ⟨w0, hw0⟩ := e_ (w.alloc (.cells #[f.a, f.b, f.c, f.d] 26));have HX0 : Hid (Xt w w0) := (by unfold Hid; rw [<- hw0]; exact (Xt.refl _).alloc _);have HR0 : Hid (r_ w0 w.heap.size #[f.a, f.b, f.c, f.d] 26) := (by unfold Hid; rw [<- hw0]; exact (a_ w _).1);obtain ⟨⟨a0, a1, a2, a3⟩, _⟩ := jr0 HR0.out;have HVA := h_ (fun V => jwl f.a f.b f.c f.d V);rw [hv] at HVA;clear hG hT hO hv;go_enter Tryz.func29, Tryz.ntmps29;go_wp2_with (first
  | (go_at_call 40; refine (HVA.out _).mono ?_; rintro e w1 ⟨rfl, hg1⟩; have HX1 : Hid (Xt w0 w1) := hg1.xt; obtain ⟨⟨a0, a1, a2, a3⟩, _⟩ := jr0 (rowX HX1.out HR0.out); clear hg1)
  | (go_at_call 68; refine (zzi f gb mb M _ (HG.out.xt (HX0.out.trans HX1.out)) (HT.out.xt (HX0.out.trans HX1.out)) HO.out).mono ?_; rintro e w2 ⟨hx2, go, mo, Mo, rfl, hGo, hEo, hmo, hgo, _⟩; have HX2 : Hid (Xt w0 w2) := HX1.out.trans hx2; have HGo := h_ hGo; have HEo := h_ hEo; have hsz := HX1.out.size; have hsz0 := HX0.out.size; clear hx2 hGo hEo))
 go_ret2
 exact ⟨HX0.out.trans HX2.out, go, mo, Mo, rfl, HGo.out, HEo.out, by omega⟩
theorem ArgsIn.near {w w' : World} {B : Nat} (h : Near B w w') : ∀ {n : Nat} {av : Value} {l : List NodeT}, ArgsIn w n av l -> ArgsIn w' n av l
 | 0, _, _, h0 => h0
 | n + 1, _, _, ⟨a, cap, e, h1, h2, h3⟩ => by
  refine ⟨a, cap, e, h1, h2, fun hne => ?_⟩;obtain ⟨b, off, ea, hc⟩ := h3 hne;refine ⟨b, off, ea, fun k t ht => ?_⟩;obtain ⟨av', q1, q2⟩ := hc k t ht;refine ⟨av', fun i u hu => ?_, q2.near h⟩;have hb : w'.heap[b]? = w.heap[b]? := by
   rcases h.small b with e | e
   . exact e
   . have hx : (nodeC t av')[14]? = some av' := (by cases t; rfl);have := e _ _ (q1 14 av' hx);omega
  exact (d_ (w := w) (a := ⟨b, off + k * 15 + i, none⟩) hb).trans (q1 i u hu)
theorem ceIn.near {w w' : World} {B : Nat} {x : CE} (h : ceIn w x) (hn : Near B w w') : ceIn w' x := ⟨h.1, let ⟨n, hh⟩ := h.2; ⟨n, hh.near hn⟩⟩
theorem GridIs.near {w w' : World} {B gb mb : Nat} {M : GM} (h : GridIs w gb mb M) (hn : Near B w w') (hg : gb < B) (hm : mb < B) : GridIs w' gb mb M :=
 ⟨(d_ (w := w) (a := ⟨gb, 0, none⟩) (hn.block gb hg)).trans h.cell, let ⟨E, h1, h2⟩ := h.map; ⟨E, h1.of_heap (hn.block mb hm), h2⟩, h.sorted, fun x hx => (h.args x hx).near hn, h.many⟩
structure MN {α : Type} (W0 : World) (B go mo : Nat) (F : List α -> Option PG) (pre : List α) (W : World) : Prop where
 below : ∀ k, k < B -> k ≠ mo -> W.heap[k]? = W0.heap[k]?
 os : W.os = W0.os
 tape : W.tape = W0.tape
 output : W.output = W0.output
 size : W0.heap.size <= W.heap.size
 out : ∃ Mo, GridIs W go mo Mo /\ F pre = some (er Mo)
theorem MN.near {α : Type} {W0 : World} {B go mo : Nat} {F : List α -> Option PG} (hg : go < B) (hm : mo < B) : NearFrom B (fun pre W => MN W0 B go mo F pre W) := fun _s _X _Y h hn =>
 ⟨fun k hk hne => (hn.block k hk).trans (h.below k hk hne), hn.os.trans h.os, hn.tape.trans h.tape, hn.output.trans h.output, Nat.le_trans h.size hn.size, let ⟨Mo, h1, h2⟩ := h.out; ⟨Mo, h1.near hn hg hm, h2⟩⟩
theorem MN.xt {α : Type} {W0 W W' : World} {B go mo : Nat} {F : List α -> Option PG} {pre : List α} (hB : B <= W0.heap.size) (h : MN W0 B go mo F pre W) (hx : Xt W W') : MN W0 B go mo F pre W' :=
 ⟨fun k hk hne => (hx.block k (by have := h.size; omega)).trans (h.below k hk hne), hx.os.trans h.os, hx.tape.trans h.tape, hx.output.trans h.output, Nat.le_trans h.size hx.size, let ⟨Mo, h1, h2⟩ := h.out; ⟨Mo, h1.xt hx, h2⟩⟩
theorem MN.start {α : Type} {W0 : World} {B go mo : Nat} {F : List α -> Option PG} {M : GM} (h : GridIs W0 go mo M) (hF : F [] = some (er M)) : MN W0 B go mo F [] W0 :=
 ⟨fun _ _ _ => rfl, rfl, rfl, rfl, Nat.le_refl _, M, h, hF⟩
theorem MN.grown {α : Type} {W0 W : World} {B go mo : Nat} {F : List α -> Option PG} {pre : List α} (h : MN W0 B go mo F pre W) (hB : B = W0.heap.size) : W0.grownBy W (some mo) :=
 ⟨h.os, h.tape, h.output, h.size, fun k hk hne => h.below k (by omega) (fun e => hne (by rw [e]))⟩
theorem ydB (f : ArT) (w : World) :
    Calls Tryz.prog 39 #[arT f] w fun e w' => e = .returned (.func (.func 79) #[] #[v_ w.heap.size]) /\ w' = w.alloc (.cells #[f.a, f.b, f.c, f.d] 26) := by
 go_enter Tryz.func39, Tryz.ntmps39;go_wp2;go_ret;exact ⟨rfl, rfl⟩
theorem zxW {fr : Ad} {t : ArT} {M Mo : GM} {u : ContT} (hu : ((lkM fr M).getD (zeroC, none)).1 = u) (hk : u.kind = 0) (hE : er Mo = zRj t (er M)) : yat fr t (er M) = some (er Mo) := by
 unfold yat;rw [<- er_getD, hu, if_pos hk, hE]
theorem jCF {fr : Ad} {t : ArT} {M : GM} {u : ContT} (hu : ((lkM fr M).getD (zeroC, none)).1 = u) (hk : ¬ u.kind = 0) : yat fr t (er M) = yTr fr u (zRj t (er M)) (y1i t) := by
 unfold yat;rw [<- er_getD, hu, if_neg hk]
theorem yOl {w : World} {go mo b : Nat} {M : GM} {v : Value} {T : TypeId} (h : GridIs w go mo M) (hb : w.heap[b]? = some (.cells #[v] T (0, 0))) (hv : v ≠ .map (some mo)) : go ≠ b /\ mo ≠ b := by
 refine ⟨fun e => ?_, fun e => ?_⟩
 . have h1 := h.cell;rw [e, (yvw hb).1] at h1;exact hv (i_ h1)
 . obtain ⟨E, hm, _⟩ := h.map;obtain ⟨es, clk, h1, _⟩ := hm;rw [e, hb] at h1; cases h1
theorem zjR {w : World} {go mo b : Nat} {M : GM} {v : Value} {vs : List Value} {T : TypeId} (h : GridIs w go mo M) (hb : w.heap[b]? = some (.cells (v :: vs).toArray T (0, 0))) (hv : v ≠ .map (some mo)) : go ≠ b /\ mo ≠ b := by
 refine ⟨fun e => ?_, fun e => ?_⟩
 . have h1 := h.cell;rw [e] at h1;have h2 : (v :: vs).toArray[0]? = some (.map (some mo)) := (by simpa [World.cell?, hb] using h1);exact hv (by simpa using h2)
 . obtain ⟨E, hm, _⟩ := h.map;obtain ⟨es, clk, h1, _⟩ := hm;rw [e, hb] at h1; cases h1
theorem jV6 {w : World} {go mo b : Nat} {M : GM} {v : Value} {T : TypeId} (h : GridIs w go mo M) (hb : w.heap[b]? = some (.cells #[v] T (0, 0))) : mo ≠ b := fun e => by
 obtain ⟨E, hm, _⟩ := h.map;obtain ⟨es, clk, h1, _⟩ := hm;rw [e, hb] at h1; cases h1
theorem yss {w w' : World} {n go mo : Nat} {M : GM} {av : Value} {l : List NodeT} (h : ArgsIn w n av l) (hg : w.grownBy w' (some mo)) (hG : GridIs w go mo M) : ArgsIn w' n av l := by
 obtain ⟨E, hm, _⟩ := hG.map;exact h.kept (CellsIn.of_grown hm hg)
theorem jc4 {w2 wc : World} {k8 k9 go mo nz : Nat} {Mo0 : GM} {zc : CE} {S : Nat -> Prop} (hx : Xt w2 wc) (h8 : wc.heap[k8]? = some (.cells #[.pointer none] 29 (0, 0))) (h9 : wc.heap[k9]? = some (.cells zC 51 (0, 0)))
    (l8 : w2.heap.size <= k8) (l9 : w2.heap.size <= k9) (hG : GridIs wc go mo Mo0) (hM : ∀ V, Xt w2 V -> ∀ x ∈ Mo0, ceIn V x.2) (hZ : ArgsS S wc nz (.slice zc.2 zc.1.t.args.length zc.1.t.args.length) zc.1.t.args) (hS : ∀ b, S b -> b ≠ k8 /\ b ≠ k9) :
    ∃ vS vE, wc.setCell ⟨k8, 0, none⟩ (v_ go) = vS /\ vS.setRow k9 (rQ zc.1 (.slice zc.2 zc.1.t.args.length zc.1.t.args.length)) = vE /\ r_ vS k9 zC 51 /\ Hid (Xt w2 vS) /\ Hid (Xt w2 vE) /\
     Hid (r_ vE k8 #[v_ go] 29) /\ Hid (r_ vE k9 (rQ zc.1 (.slice zc.2 zc.1.t.args.length zc.1.t.args.length)) 51) /\ Hid (GridIs vE go mo Mo0) /\ Hid (ArgsIn vE nz (.slice zc.2 zc.1.t.args.length zc.1.t.args.length) zc.1.t.args) := by
 have hne : k8 ≠ k9 := fun e => by rw [e, h9] at h8; cases h8
 obtain ⟨vS, hvS⟩ := e_ (wc.setCell ⟨k8, 0, none⟩ (v_ go));have hS8 : vS.heap[k8]? = some (.cells #[v_ go] 29 (0, 0)) := (by rw [<- hvS]; exact ysv h8 0 _);have hgS : wc.grownBy vS (some k8) := by rw [<- hvS]; exact yiv _ _ _ _
 have hS9 : vS.heap[k9]? = some (.cells zC 51 (0, 0)) := (by rw [<- hvS]; exact (s_ _ _ _ _ (by simpa using fun e => hne e.symm)).trans h9);have HXS : Xt w2 vS := hx.grownB hgS (fun q hq => by cases hq; omega)
 obtain ⟨vE, hvE⟩ := e_ (vS.setRow k9 (rQ zc.1 (.slice zc.2 zc.1.t.args.length zc.1.t.args.length)))
 have hE9 : vE.heap[k9]? = some (.cells (rQ zc.1 (.slice zc.2 zc.1.t.args.length zc.1.t.args.length)) 51 (0, 0)) := by rw [<- hvE]; exact setRow_heap _ _ _ _ _ _ hS9
 have hE8 : vE.heap[k8]? = some (.cells #[v_ go] 29 (0, 0)) := (by rw [<- hvE]; exact (setRow_other _ _ _ _ hne).trans hS8);have hgE : vS.grownBy vE (some k9) := (by rw [<- hvE]; exact jGX _ _ _);have HXE : Xt w2 vE := HXS.grownB hgE (fun q hq => by cases hq; omega);have hEb : ∀ b, b ≠ k8 -> b ≠ k9 -> vE.heap[b]? = wc.heap[b]? := fun b h1 h2 => by rw [<- hvE, <- hvS]; exact (setRow_other _ _ _ _ h2).trans (s_ _ _ _ _ h1)
 have n8 : go ≠ k8 /\ mo ≠ k8 := yOl hG h8 (by intro e; cases e);have n9 : go ≠ k9 /\ mo ≠ k9 := zjR hG h9 (by intro e; cases e);exact ⟨vS, vE, hvS, hvE, hS9, HXS, HXE, hE8, hE9, ⟨(d_ (a := ⟨go, 0, none⟩) (hEb go n8.1 n9.1)).trans hG.cell, let ⟨E, h1, h2⟩ := hG.map; ⟨E, h1.of_heap (hEb mo n8.2 n9.2), h2⟩, hG.sorted, hM vE HXE, hG.many⟩,
  (hZ.keep (S' := fun _ => True) (fun _ _ _ => trivial) (fun b o hb _ => d_ (a := ⟨b, o, none⟩) (hEb b (hS b hb).1 (hS b hb).2))).args⟩
theorem y9Z (fr : Ad) (t : ArT) (gb mb : Nat) (M : GM) (w : World) (hG : GridIs w gb mb M) (hT : Tabs w) (hO : GOk (er M)) (hv : ygU t.a t.b t.c t.d = true) (hv1 : y8L fr.1 fr.2 = true) :
    Calls Tryz.prog 28 #[v_ gb, .agg #[fr.1, fr.2], arT t] w fun e w' => CopyR (yat fr t (er M)) w e w' := by
 have HG := h_ hG;have HT := h_ hT;have HO := h_ hO;have HVT := h_ hv;have hglt := hG.lt;obtain ⟨B, hB⟩ := e_ w.heap.size;obtain ⟨wx0, wx1, wx2, w0, hwx0, hswx0, hwx1, hswx1, hwx2, hswx2, hw0, hsw0, HX0, HR0, HR1, HR2, HR3⟩ := bx4 hB #[.int .i64 fr.1, .int .i64 fr.2] #[.int .i64 t.a, .int .i64 t.b, .int .i64 t.c, .int .i64 t.d] #[.pointer none] #[.int .i64 0] 24 26 29 35;have HVA := h_ (fun V => jwl t.a t.b t.c t.d V);rw [hv] at HVA;have HV1 := h_ (fun V => zpQ fr.1 fr.2 V);rw [hv1] at HV1;obtain ⟨u, hu⟩ := e_ (((lkM fr M).getD (zeroC, none)).1);have HU := h_ hu;obtain ⟨y0, y1, _, _⟩ := zxi HR0.out
 obtain ⟨⟨x0, x1, x2, x3⟩, _⟩ := jr0 HR1.out;clear hG hT hO hv hv1 hu;refine (callsIn_wide (n := 25)).1 ?_;refine callsIn_of_wp_marks Tryz.func28 rfl trivial ?_ rfl;simp only [Tryz.ntmps28, List.size_toArray, List.length_cons, List.length_nil, Nat.reduceAdd, Nat.reduceSub, Array.replicate_succ, Array.replicate_zero, List.push_toArray, List.append_toArray, List.nil_append, List.cons_append];refine wpIn_wide.2 ?_;refine wp_mono (Q := yUX (bodyPostM Fence.wide 25 Tryz.prog Tryz.f28 (fun e w' => CopyR (yat fr t (er M)) w e w'))) ?_ yqv;have hq := Int.le_refl 0;go_upto_region 5 with (first
  | (go_at_call 40; refine (HVA.out _).mono ?_; rintro e w1 ⟨rfl, hg1⟩; have HX1 : Hid (Xt w0 w1) := hg1.xt; obtain ⟨y0, y1, _, _⟩ := zxi (rowX HX1.out HR0.out); clear hg1)
  | (go_at_call 63; refine (HV1.out _).mono ?_; rintro e w2 ⟨rfl, hg2⟩; have HX2 : Hid (Xt w0 w2) := (by unfold Hid; rw [hg2]; exact HX1.out.alloc _); clear hg2))
 have HF : Hid (∀ V, Xt w2 V -> c_ V B 0 fr.1 /\ c_ V B 1 fr.2 /\ c_ V (B + 1) 0 t.a /\ c_ V (B + 1) 1 t.b /\ c_ V (B + 1) 2 t.c /\ c_ V (B + 1) 3 t.d) := h_ fun V hV => by
  obtain ⟨y0, y1, _, _⟩ := zxi (rowX (HX2.out.trans hV) HR0.out);obtain ⟨⟨x0, x1, x2, x3⟩, _⟩ := jr0 (rowX (HX2.out.trans hV) HR1.out);exact ⟨y0, y1, x0, x1, x2, x3⟩
 have hwz : w.heap.size + 4 <= w2.heap.size := (by have := HX2.out.size; omega);clear y0 y1 x0 x1 x2 x3 hwx0 hwx1 hwx2 hw0
 go_cut [8, 9] from 22 to 28 (fun s8 s9 wr => ∃ (k8 k9 go mo nz : Nat) (Mo0 : GM) (zc : CE), s8 = v_ k8 /\ s9 = v_ k9 /\ Hid (Xt w2 wr) /\ Hid (r_ wr k8 #[v_ go] 29) /\ Hid (r_ wr k9 (rQ zc.1 (.slice zc.2 zc.1.t.args.length zc.1.t.args.length)) 51) /\ Hid (GridIs wr go mo Mo0) /\ Hid (er Mo0 = zRj t (er M)) /\ (w2.heap.size <= mo /\ w2.heap.size <= go) /\ w2.heap.size <= k8 /\ w2.heap.size <= k9 /\ Hid (zc.1 = jNS u) /\ Hid (ArgsIn wr nz (.slice zc.2 zc.1.t.args.length zc.1.t.args.length) zc.1.t.args))
 case first =>
  have HXC : Hid (Xt w2 w2.drew) := (Xt.refl w2).drew;refine rg (fun V => Xt w2 V) HXC.out fun hHeld => ?_;generalize w2.drew = wd at HXC hHeld ⊢;refine tk HF.out 0 ?_;refine tk HF.out 1 ?_;refine tk HF.out 3 ?_;refine tk HF.out 4 ?_
  iterate 4
   all_goals first
    | refine rd3 2 6 7 (fun K hK => ?_) (fun K hK => ?_) fun K hK => ?_
    | refine rd3 5 6 7 (fun K hK => ?_) (fun K hK => ?_) fun K hK => ?_
    | refine rd2 6 7 (fun K hK => ?_) fun K hK => ?_
    | refine rd2 5 7 (fun K hK => ?_) fun K hK => ?_
    | refine rd2 5 6 (fun K hK => ?_) fun K hK => ?_
    | refine rd2 2 7 (fun K hK => ?_) fun K hK => ?_
    | refine rd2 2 6 (fun K hK => ?_) fun K hK => ?_
    | refine rdH 7 fun K hK => ?_
    | refine rdH 6 fun K hK => ?_
    | refine rdH 5 fun K hK => ?_
    | refine rdH 2 fun K hK => ?_
   all_goals
    go_simp
    first
     | refine (zzi t gb mb M wd (HG.out.xt (HX0.out.trans (HX2.out.trans HXC.out))) (HT.out.xt (HX0.out.trans (HX2.out.trans HXC.out))) HO.out).mono ?_
       rintro e wd ⟨hxs, go, mo, Mo0, rfl, hGo, hEo, hmo, hgo, hsub⟩;have hszc := HXC.out.size;have hmo2 : w2.heap.size <= mo /\ w2.heap.size <= go := (by omega);have HGo := h_ hGo;have HEo := h_ hEo;have HSUB := h_ hsub;clear hGo hEo hmo hgo hsub hszc
     | obtain ⟨lo, hlo⟩ := e_ ((World.heap wd).size)
       try have hbk8 : k8 < lo := by rw [<- hlo]; exact (g_ HK8.out).1
       try have hbk9 : k9 < lo := by rw [<- hlo]; exact (g_ HK9.out).1
       refine (yLO gb mb M fr wd (HG.out.xt (HX0.out.trans (HX2.out.trans HXC.out)))).mono ?_;rintro e wd ⟨nz, a7, rfl, hA7, hxs⟩;rw [HU.out] at hA7 ⊢;obtain ⟨zc, hz1, hz2⟩ : ∃ zc : CE, zc.1 = jNS u /\ zc.2 = a7 := ⟨(jNS u, a7), rfl, rfl⟩;have hzv : ysf u a7 = ceV zc := (by rw [<- jX1]; obtain ⟨z1, z2⟩ := zc; simp only at hz1 hz2; rw [hz1, hz2]);rw [hzv];obtain ⟨hi, hhi⟩ := e_ ((World.heap wd).size)
       have HAZ : Hid (ArgsS (fun b => lo <= b /\ b < hi) wd nz (.slice zc.2 zc.1.t.args.length zc.1.t.args.length) zc.1.t.args) := (by unfold Hid; rw [hz1, hz2]; show ArgsS _ _ _ (.slice a7 (copyT u.t).args.length (copyT u.t).args.length) (copyT u.t).args; rw [copyT_len, zH4]; exact hA7.keep (fun b h1 h2 => ⟨by rw [<- hlo]; exact h1, by rw [<- hhi]; exact h2⟩) (fun _ _ _ _ => rfl));have HHI : Hid (hi <= (World.heap wd).size) := Nat.le_of_eq hhi.symm;have HZ : Hid (zc.1 = jNS u) := hz1;clear hA7 hz1 hz2 hzv hlo hhi
     | obtain ⟨wd, hv⟩ := e_ (World.alloc wd (.cells #[.pointer none] 29))
       obtain ⟨k8, hk, hxs, h8⟩ := jrx hv;rw [hv];try simp only [hk]
       have HK8 := h_ h8;have hlk8 : w2.heap.size <= k8 := (by rw [<- hk]; exact HXC.out.size);try have hbk8 : hi <= k8 := by rw [<- hk]; exact HHI.out
       clear hv hk h8
     | obtain ⟨wd, hv⟩ := e_ (World.alloc wd (.cells zC 51))
       obtain ⟨k9, hk, hxs, h9⟩ := jrx hv;rw [hv];try simp only [hk]
       have HK9 := h_ h9;have hlk9 : w2.heap.size <= k9 := (by rw [<- hk]; exact HXC.out.size);try have hbk9 : hi <= k9 := by rw [<- hk]; exact HHI.out
       clear hv hk h9
    try replace HGo := h_ (HGo.out.xt hxs)
    try replace HAZ := h_ (HAZ.out.keep (fun b h1 _ => h1) (fun b o _ hlt => d_ (a := ⟨b, o, none⟩) (hxs.block b hlt)))
    try replace HHI := h_ (Nat.le_trans HHI.out hxs.size)
    try replace HK8 := h_ (rowX hxs HK8.out)
    try replace HK9 := h_ (rowX hxs HK9.out)
    replace HXC := h_ (HXC.out.trans hxs);refine ko hK HXC.out fun hHe => ?_;clear hK K hxs
  all_goals
   obtain ⟨s0, s1⟩ := yvw HK8.out;obtain ⟨vS, vE, hvS, hvE, hS9, HXS, HXE, HE8, HE9, HGE, HAE⟩ := jc4 HXC.out HK8.out HK9.out hlk8 hlk9 HGo.out (fun V hV x hx => (HG.out.args x (HSUB.out x hx)).kept (HX0.out.trans (HX2.out.trans hV)).cellsIn) HAZ.out (fun b hb => ⟨by omega, by omega⟩);refine rdH 8 (fun K hK => ?_);go_simp;try rw [hvS]
   refine ko hK HXS.out fun hHe => ?_;clear hK K s0 s1 hvS;refine rdH 9 (fun K hK => ?_);rw [if_pos (by rfl)]
   refine wp_store_row (P := Tryz.prog) 51 _ _ rfl k9 #[.int .i64 zc.1.kind, .int .i64 zc.1.v.kind, .float .f64 zc.1.v.x, .string zc.1.v.s, .bool zc.1.v.b, .int .i64 zc.1.v.f, .int .i64 zc.1.t.kind, .int .i64 zc.1.t.op, .float .f64 zc.1.t.x, .string zc.1.t.s, .bool zc.1.t.b, .int .i64 zc.1.t.f, .int .i64 zc.1.t.ref.a.1, .int .i64 zc.1.t.ref.a.2, .bool zc.1.t.ref.cf, .bool zc.1.t.ref.rf, .int .i64 zc.1.t.to.a.1, .int .i64 zc.1.t.to.a.2, .bool zc.1.t.to.cf, .bool zc.1.t.to.rf, .slice zc.2 zc.1.t.args.length zc.1.t.args.length] rfl rfl 51 _ hS9 (by kernel_rfl) rfl (by simp [Value.oneCell']) ?_;try rw [hvE]
   refine hK.out _ _ HXE.out (fun hHe => ?_);clear hK K hvE hS9;refine z_ (by kernel_rfl) ?_ _;go_wp2_with fail;go_meet
   case rel => exact ⟨k8, k9, go, mo, nz, Mo0, zc, rfl, rfl, HXE, HE8, HE9, HGE, HEo, hmo2, hlk8, hlk9, HZ, HAE⟩
 case rest =>
  obtain ⟨k8, k9, go, mo, nz, Mo0, zc, rfl, rfl, HXr, HK8, HK9, HGo, HEo, hmo, hk8, hk9, HZ, HAZ⟩ := hcut;obtain ⟨w3, hw3⟩ : ∃ w3, w3 = wc := ⟨_, rfl⟩;subst hw3;have HX03 : Hid (Xt w0 w3) := HX2.out.trans HXr.out;have HXw3 : Hid (Xt w w3) := HX0.out.trans HX03.out;obtain ⟨c8, f8⟩ := yvw HK8.out;have ck : w3.cell? ⟨k9, 0, none⟩ = some (.int .i64 zc.1.kind) := (by have := HK9.out; simp [World.cell?, this]);obtain ⟨r1, g1⟩ := yvw (rowX HX03.out HR2.out);obtain ⟨r2, g2⟩ := yvw (rowX HX03.out HR3.out);have hzk : zc.1.kind = u.kind := (by rw [HZ.out]; rfl);by_cases h0 : u.kind = 0
  . have hkb : (zc.1.kind == 0) = true := (by rw [hzk]; simp [h0]);have H0 := h_ h0;clear h0 hzk;go_wp2_with fail;obtain ⟨W', hW'⟩ := e_ ((w3.setCell ⟨B + 1 + 1, 0, none⟩ (v_ go)).setCell ⟨B + 1 + 1 + 1, 0, none⟩ (.int .i64 0));have k1 : W'.cell? ⟨B + 1 + 1, 0, none⟩ = some (.pointer (some ⟨go, 0, none⟩)) := (by rw [<- hW', o_ _ _ _ _ (by simp)]; exact k_ _ _ _ r1);have k2 : W'.cell? ⟨B + 1 + 1 + 1, 0, none⟩ = some (.int .i64 0) := by rw [<- hW']; exact k_ _ _ _ ((o_ _ _ _ _ (by simp)).trans r2)
    have hgW : Wr (fun b => b = B + 1 + 1 \/ b = B + 1 + 1 + 1) w3 W' := (by rw [<- hW']; exact (Wr.cell _ (Or.inl rfl)).trans (Wr.cell _ (Or.inr rfl)));have hxE : Xt w W' := hgW.xt HXw3.out (fun b hb => by rcases hb with e | e <;> omega);have HC1c := rowX HX03.out HR2.out;have HC2c := rowX HX03.out HR3.out;have hGW : GridIs W' go mo Mo0 := by
     have hk : ∀ b, b ≠ B + 1 + 1 -> b ≠ B + 1 + 1 + 1 -> W'.heap[b]? = w3.heap[b]? := fun b h1 h2 => by rw [<- hW']; exact (s_ _ _ _ _ h2).trans (s_ _ _ _ _ h1)
     exact HGo.out.far (P := fun b => b = B + 1 + 1 \/ b = B + 1 + 1 + 1) (fun b hb => hk b (fun e => hb (Or.inl e)) (fun e => hb (Or.inr e)))
      (fun b hb o u hu => by
       rcases hb with rfl | rfl
       . exact jR0 HC1c hu
       . exact jR0 HC2c hu) (by have := jV6 HGo.out HC1c; have := jV6 HGo.out HC2c; omega) (by omega)
    rw [hW'];exact ⟨_, yGx rfl _ _ (B + 1 + 1) (B + 1 + 1 + 1) (v_ go) (.int .i64 0) rfl rfl (zDK _ _ _ k1) (jVH _ _ _ k2), hxE, Or.inr ⟨go, mo, Mo0, rfl, hGW, zxW HU.out H0.out HEo.out, by omega⟩⟩
  . have hkb : (zc.1.kind == 0) = false := (by rw [hzk]; simpa using h0);have H0 := h_ h0;obtain ⟨cu, hcu, hmu⟩ : ∃ cu, lkM fr (er M) = some cu /\ cu = u := by
     have h1 := HU.out;rw [er_getD] at h1;cases e : lkM fr (er M) with
     | none => rw [e] at h1; exact absurd (by rw [<- h1]; rfl) h0
     | some cu => rw [e] at h1; exact ⟨cu, rfl, h1⟩
    subst hmu;obtain ⟨v0, v1, v2, v3, v4⟩ := HO.out.each _ (zL0 hcu);simp only at v1 v2 v3 v4;have HCU : Hid (yQy cu = true /\ (cu.kind == 0) = false /\ jNS cu = cu /\ cu.ok) := ⟨v1, v2, v3, v4⟩;have hgz : yQy zc.1 = true := (by rw [HZ.out]; exact (yuh cu).trans v1);have hokz : zc.1.ok := (by rw [HZ.out]; exact jvQ v4);have hsmu : yQE zc.1.t := by
     rw [HZ.out];refine jXA _ ?_;have h2 := HG.out.lookIn fr;have h3 := h2.1;rw [HU.out] at h3;exact h3
    have HGZ := h_ hgz;have HOKZ := h_ hokz;have HSMZ := h_ hsmu;have hFA := HF.out w3 HXr.out;obtain ⟨y0, y1, x0, x1, x2, x3⟩ := hFA;clear h0 hzk v0 v1 v2 v3 v4 hcu hgz hokz hsmu r1 g1 r2 g2 c8 f8;go_wp2_with (first
     | (go_at_call 39; refine (ydB t w3).mono ?_; rintro e w' ⟨rfl, hw4⟩; subst hw4))
    obtain ⟨W0, hW0⟩ := e_ (w3.alloc (.cells #[t.a, t.b, t.c, t.d] 26));have HX3W : Hid (Xt w3 W0) := (by unfold Hid; rw [<- hW0]; exact (Xt.refl _).alloc _);have HB12 : Hid (r_ W0 w3.heap.size #[t.a, t.b, t.c, t.d] 26) := (by unfold Hid; rw [<- hW0]; exact (a_ w3 _).1);obtain ⟨b12, hb12⟩ := e_ w3.heap.size;rw [hb12] at HB12;simp only [hW0, hb12];have HXW : Hid (Xt w W0) := HXw3.out.trans HX3W.out;have HX2W : Hid (Xt w2 W0) := HXr.out.trans HX3W.out;have HGoW : Hid (GridIs W0 go mo Mo0) := HGo.out.xt HX3W.out
    have HR2W := h_ (rowX (HX2.out.trans HX2W.out) HR2.out);have HR3W := h_ (rowX (HX2.out.trans HX2W.out) HR3.out);have HRCW := h_ (rowX HX3W.out HK8.out);have HK9W := h_ (rowX HX3W.out HK9.out);have HAZW : Hid (ArgsIn W0 nz (.slice zc.2 zc.1.t.args.length zc.1.t.args.length) zc.1.t.args) := HAZ.out.xt HX3W.out;have HR0W := h_ (rowX (HX2.out.trans HX2W.out) HR0.out);have hgml := HGoW.out.lt;have hk8l : k8 < W0.heap.size := (g_ HRCW.out).1;have hk9l : k9 < W0.heap.size := (g_ HK9W.out).1;have hBW1 : B + 1 + 1 < W0.heap.size := by have := HX2W.out.size; have := HX2.out.size; omega
    have hBW2 : B + 1 + 1 + 1 < W0.heap.size := (by have := HX2W.out.size; have := HX2.out.size; omega);have hk8m : k8 ≠ mo := fun e => by
     obtain ⟨E, hm, _⟩ := HGoW.out.map;obtain ⟨es, clk, h1, _⟩ := hm;rw [<- e, HRCW.out] at h1; cases h1
    have hk9m : k9 ≠ mo := fun e => by
     obtain ⟨E, hm, _⟩ := HGoW.out.map;obtain ⟨es, clk, h1, _⟩ := hm;rw [<- e, HK9W.out] at h1; cases h1
    clear y0 y1 x0 x1 x2 x3 ck;generalize hA0 : Act.mk _ _ = a0;refine (wpIn_wide (n := 25)).1 ?_;refine jbo (n := 25) (by omega) (gf := 79) (lb := #[v_ b12]) (by subst hA0; rfl) (enters_of Tryz.func79 (by kernel_rfl) rfl)
     (yvQ (25 - 1) b12 t W0 HB12.out HVT.out) (fun h k => h.trans k) (fun W l o o' hl ho hc hw => KC.putObj o' ho hc) (Below.refl _ _) (fun _ => rfl)
     (fun pre W => MN W0 W0.heap.size go mo (yTr fr cu (zRj t (er M))) pre W)
     (fun c pre W => c = .ret /\ Xt w W /\ r_ W (B + 1 + 1) #[.pointer none] 29 /\ yTr fr cu (zRj t (er M)) pre = none /\ r_ W (B + 1 + 1 + 1) #[.int .i64 41] 35)
     (MN.near (by omega) (by omega))
     (fun c s X Y hs hn => ⟨hs.1, Below.trans hs.2.1 (hn.below.mono (by have := HXW.out.size; omega)), (hn.block _ hBW1).trans hs.2.2.1, hs.2.2.2.1, (hn.block _ hBW2).trans hs.2.2.2.2⟩)
     (MN.start HGoW.out (by rw [HEo.out]; rfl))
     (fun x a' W => ∃ Bx, r_ W Bx #[x.1, x.2] 24 /\ inA t x = true /\ a' = { tmps := (a0.tmps.setIfInBounds 34 (adW x)).setIfInBounds 10 (v_ Bx), defers := [] })
     (fun x a' _ X Y row hs hg hr => by
      obtain ⟨Bx, h1, h2, h3⟩ := hs;exact ⟨Bx, jI8 h1 hg (fun r e => (hr r e).2), h2, h3⟩)
     ?assign ?body ?done ?stop
    case stop =>
     rintro D c pre W hD hS ⟨rfl, hxW, k1, hno, k2⟩ hK;subst hA0;refine (wpIn_wide (n := 25)).2 ?_;go_wp2_with fail;refine ⟨by simp, .inl ⟨_, _, rfl, run_takeDeferred hK, ?_⟩⟩;have k1' : (W.putObj D (.deferred none)).heap[B + 1 + 1]? = some (.cells #[.pointer none] 29 (0, 0)) := (World.putObj_heap_other (by omega)).trans k1;have k2' : (W.putObj D (.deferred none)).heap[B + 1 + 1 + 1]? = some (.cells #[.int .i64 41] 35 (0, 0)) := (World.putObj_heap_other (by omega)).trans k2;have hxE : Xt w (W.putObj D (.deferred none)) := hxW.grownB (grownBy_putObj' W D _) (fun q hq => by cases hq; have := HXW.out.size; omega)
     refine ⟨_, yGx rfl _ _ (B + 1 + 1) (B + 1 + 1 + 1) (.pointer none) (.int .i64 41) rfl rfl (zDK _ _ _ (yvw k1').1) (jVH _ _ _ (yvw k2').1), hxE, Or.inl ⟨rfl, ?_⟩⟩;rw [jCF HU.out H0.out];obtain ⟨l, hl⟩ := hS;rw [<- hl];exact jkm _ _ _ _ _ hno
    case done =>
     rintro D xs W hD hS hI hK;subst hA0;have hgr := hI.grown rfl;obtain ⟨Mo, hGo, hEo⟩ := hI.out;clear hI;have HGo := h_ hGo;have HEo2 : Hid (yat fr t (er M) = some (er Mo)) := by
      unfold Hid;rw [jCF HU.out H0.out, <- hS];exact hEo
     clear hEo;have r1 := (hgr.block (B + 1 + 1) (by omega) (fun e => by have := i_ e; omega)).trans HR2W.out;have r2 := (hgr.block (B + 1 + 1 + 1) (by omega) (fun e => by have := i_ e; omega)).trans HR3W.out;have rC := (hgr.block k8 (by omega) (fun e => by have := i_ e; omega)).trans HRCW.out;obtain ⟨c1, f1⟩ := yvw r1;obtain ⟨c2, f2⟩ := yvw r2;obtain ⟨cGG, _⟩ := yvw rC;have HxW : Hid (Xt w W) := HXW.out.grownB hgr (fun q hq => by cases hq; omega);have HK := h_ hK;have HC1c := h_ r1;have HC2c := h_ r2;clear hGo hS hgr r1 r2 rC hK;go_wp2_with fail
     obtain ⟨W', hW'⟩ := e_ ((W.setCell ⟨B + 1 + 1, 0, none⟩ (v_ go)).setCell ⟨B + 1 + 1 + 1, 0, none⟩ (.int .i64 0));have k1 : W'.cell? ⟨B + 1 + 1, 0, none⟩ = some (.pointer (some ⟨go, 0, none⟩)) := (by rw [<- hW', o_ _ _ _ _ (by simp)]; exact k_ _ _ _ c1);have k2 : W'.cell? ⟨B + 1 + 1 + 1, 0, none⟩ = some (.int .i64 0) := (by rw [<- hW']; exact k_ _ _ _ ((o_ _ _ _ _ (by simp)).trans c2));have hgW : Wr (fun b => b = B + 1 + 1 \/ b = B + 1 + 1 + 1) W W' := by rw [<- hW']; exact (Wr.cell _ (Or.inl rfl)).trans (Wr.cell _ (Or.inr rfl))
     have hKW : W'.heap[D]? = some (.deferred (some [])) := (hgW.block D (g_ HK.out).1 (fun e => by omega)).trans HK.out;have hGW : GridIs (W'.putObj D (.deferred none)) go mo Mo := by
      have hk : ∀ b, b ≠ B + 1 + 1 -> b ≠ B + 1 + 1 + 1 -> b ≠ D -> (W'.putObj D (.deferred none)).heap[b]? = W.heap[b]? := fun b h1 h2 h3 => (World.putObj_heap_other h3).trans (by rw [<- hW']; exact (s_ _ _ _ _ h2).trans (s_ _ _ _ _ h1));exact HGo.out.far (P := fun b => b = B + 1 + 1 \/ b = B + 1 + 1 + 1 \/ b = D) (fun b hb => hk b (fun e => hb (Or.inl e)) (fun e => hb (Or.inr (Or.inl e))) (fun e => hb (Or.inr (Or.inr e))))
       (fun b hb o u hu => by
        rcases hb with rfl | rfl | rfl
        . exact jR0 HC1c.out hu
        . exact jR0 HC2c.out hu
        . rw [World.cell?, HK.out] at hu; cases hu) (by omega) (by omega)
     rw [hW'];refine ⟨by simp, .inl ⟨_, _, rfl, run_takeDeferred hKW, ?_⟩⟩;have hcell : ∀ b, b ≠ D -> ∀ u, W'.cell? ⟨b, 0, none⟩ = some u -> (W'.putObj D (.deferred none)).cell? ⟨b, 0, none⟩ = some u := fun b hb u hu => (d_ (w := W') (a := ⟨b, 0, none⟩) (World.putObj_heap_other (by exact hb))).trans hu;have hxE : Xt w (W'.putObj D (.deferred none)) := by
      have h1 : Xt w W' := hgW.xt HxW.out (fun b hb => by rcases hb with e | e <;> omega);exact h1.grownB (grownBy_putObj' W' D _) (fun q hq => by cases hq; have := HXW.out.size; omega)
     exact ⟨_, yGx rfl _ _ (B + 1 + 1) (B + 1 + 1 + 1) (v_ go) (.int .i64 0) rfl rfl (zDK _ _ _ (hcell _ (by omega) _ k1)) (jVH _ _ _ (hcell _ (by omega) _ k2)), hxE, Or.inr ⟨go, mo, Mo, rfl, hGW, HEo2.out, by omega⟩⟩
    case assign =>
     rintro l0 pre x W K hI ⟨V, hIV, ht⟩ hK;subst hA0;obtain ⟨c, d⟩ := x;have HI := h_ hI;have HTT := h_ ht;obtain ⟨wA, hwA, hbA, hsA, kA0, kA1⟩ := box1 W c d 24;have hrA : wA.heap[W.heap.size]? = some (.cells #[.int .i64 c, .int .i64 d] 24 (0, 0)) := (by rw [<- hwA]; exact World.alloc_heap_new W _);have HXA : Hid (Xt W wA) := hbA;have HRA := h_ hrA;clear hrA hbA kA0 kA1 hI ht hIV
     gi_wp2_with fail
     refine hK _ _ (jWD HXA.out _) (KC.of_xt HXA.out) (HI.out.xt (Nat.le_refl _) HXA.out) ⟨W.heap.size, HRA.out, HTT.out, ?_⟩;simp only [List.setIfInBounds_toArray, List.set_cons_zero, List.set_cons_succ]
    case body =>
     rintro l0 pre x a' W hl0 ⟨r, hr⟩ hI ⟨Bx, hBx, hin, rfl⟩ hlt;subst hA0;obtain ⟨c, d⟩ := x;have hgr := hI.grown rfl;obtain ⟨Mo, hGo2, hEo2⟩ := hI.out;have HI := h_ hI;have HGo2 := h_ hGo2;have HGr := h_ hgr;have hgs := hgr.size;have bk : ∀ b o, b ≠ mo -> b < W0.heap.size -> W0.heap[b]? = some o -> W.heap[b]? = some o := fun b o hb hl h => (hgr.block b hl (fun e => hb (i_ e))).trans h;obtain ⟨cC, _⟩ := yvw (bk k8 _ hk8m hk8l HRCW.out);have HK9R := h_ (bk k9 _ hk9m hk9l HK9W.out);have r0 := bk B _ (by omega) (by have := HX2W.out.size; omega) HR0W.out;have r1 := bk (B + 1 + 1) _ (by omega) (by have := HX2W.out.size; omega) HR2W.out
     have r2 := bk (B + 1 + 1 + 1) _ (by omega) (by have := HX2W.out.size; omega) HR3W.out;obtain ⟨y0, y1, _, _⟩ := zxi r0;obtain ⟨x0, x1, _, _⟩ := zxi hBx;have HRB1 := h_ r1;have HRB2 := h_ r2;have HXWW : Hid (Xt w W) := HXW.out.grownB hgr (fun q hq => by have := i_ hq; omega);have hin2 := yL5 hin;have hyv : y8L c d = true := by
      have := zFS HVT.out;refine zDL ?_;simp only at hin2; omega
     obtain ⟨_, v1, v2, v3, v4⟩ : True /\ _ := ⟨trivial, HCU.out⟩;have hAz : ArgsIn W nz (.slice zc.2 zc.1.t.args.length zc.1.t.args.length) zc.1.t.args := yss HAZW.out hgr HGoW.out;have HP := h_ (jnh nz go mo Mo zc.1 zc.2 zc.1.t.args.length fr (c, d) W hGo2 (HT.out.xt HXWW.out) HOKZ.out HSMZ.out hAz HGZ.out);obtain ⟨dx, hdx⟩ := e_ ((byG fr (c, d)).1);obtain ⟨dy, hdy⟩ := e_ ((byG fr (c, d)).2);rw [hdx, hdy] at HP;obtain ⟨cd, hcd⟩ := e_ (zWI Mo (c, d) (shC dx dy zc.1));have hcd2 : jJz (er Mo) (c, d) (shC dx dy (jNS cu)) = cd := by rw [<- HZ.out, <- ycU]; exact hcd
     have hst : yTr fr cu (zRj t (er M)) (pre ++ [(c, d)]) = y1P (some (er Mo)) (c, d) (shC dx dy (jNS cu)) := by
      rw [zVX, hEo2, <- hdx, <- hdy]; rfl
     have HPO : Hid (∀ zz, cd = 0 -> yTr fr cu (zRj t (er M)) (pre ++ [(c, d)]) = some (er (j4E Mo (c, d) (shC dx dy zc.1) zz))) := h_ fun zz h => by
      rw [hst, z2O (hcd2.trans h), yZx, HZ.out]
     have HPN : Hid (cd ≠ 0 -> yTr fr cu (zRj t (er M)) (pre ++ [(c, d)]) = none) := h_ fun h => by
      rw [hst]; exact yuy (by rw [hcd2]; exact h)
     have hcd3 : cd ≠ 0 -> cd = 41 := fun h => by rw [<- hcd2] at h ⊢; exact zOI hyv v1 v2 h
     have HCD := h_ hcd;have hfl : Fence.wide.fn 70 := trivial;clear hGo2 hEo2 hgr r0 r1 r2 hBx hr hlt hin hin2 hyv hcd2 hst v1 v2 v3 v4 hAz hdx hdy hI bk;simp only [List.setIfInBounds_toArray, List.set_cons_zero, List.set_cons_succ];by_cases h0 : cd = 0
     . have hcb : (cd != 0) = false := (by simp [h0]);have H0 := h_ h0;clear h0 hcd3 hcd
       gi_wp2_with (first
        | (refine BigFrame.wpListIn_want (by rfl) (fun K hK => jzi 51 _ rfl k9 rfl 51 _ (0, 0) _ HK9R.out Tryz.underlying51 rfl (by kernel_rfl) (hK _ _ ?_)); clear hK K)
        | (gi_at_call 70; refine (jbR HP.out).mono ?_; rintro e w8 ⟨zz, rfl, hG8, hg8⟩; rw [HCD.out]; have HG8 := h_ hG8; have Hg8 := h_ hg8; clear hG8 hg8))
       have hgW := Hg8.out;have hg2 := z8o HGr.out hgW;refine ⟨⟨hgW.size, fun k o hB hk _ => (hgW.block k (g_ hk).1 (fun e => by have := i_ e; omega)).trans hk⟩, ⟨hgW.size, fun k o hk hc => (hgW.block k (g_ hk).1 (fun e => ?_)).trans hk⟩, ⟨fun k hk hne => hg2.block k hk (fun e => hne (i_ e)), hg2.os, hg2.tape, hg2.output, hg2.size, _, HG8.out, HPO.out _ H0.out⟩⟩;obtain ⟨E, hm, _⟩ := HGo2.out.map;obtain ⟨es, clk, h1, _⟩ := hm;have e1 := i_ e;rw [e1, h1] at hk;cases hk;cases hc
     . have hcb : (cd != 0) = true := (by simpa using h0);have H0 := h_ h0;have h41 := h_ (hcd3 h0);clear h0 hcd3 hcd
       gi_wp2_with (first
        | (refine BigFrame.wpListIn_want (by rfl) (fun K hK => jzi 51 _ rfl k9 rfl 51 _ (0, 0) _ HK9R.out Tryz.underlying51 rfl (by kernel_rfl) (hK _ _ ?_)); clear hK K)
        | (gi_at_call 70; refine (jbR HP.out).mono ?_; rintro e w8 ⟨zz, rfl, hG8, hg8⟩; rw [HCD.out]; have Hg8 := h_ hg8; have q1 := (hg8.block (B + 1 + 1) (g_ HRB1.out).1 (fun e => by have := i_ e; omega)).trans HRB1.out; have q2 := (hg8.block (B + 1 + 1 + 1) (g_ HRB2.out).1 (fun e => by have := i_ e; omega)).trans HRB2.out; have HQ1 := h_ q1; have HQ2 := h_ q2; obtain ⟨k1, g1⟩ := yvw q1; obtain ⟨k2, g2⟩ := yvw q2; clear hG8 hg8 q1 q2))
       have hgW := Hg8.out;have hW8 : Wr (fun b => b = mo) W w8 := ⟨hgW.os, hgW.tape, hgW.output, hgW.size, fun b hb hn => hgW.block b hb (fun e => hn (i_ e))⟩;have hWE : Wr (fun b => b = mo \/ b = B + 1 + 1 \/ b = B + 1 + 1 + 1) W ((w8.setCell ⟨B + 1 + 1, 0, none⟩ (.pointer none)).setCell ⟨B + 1 + 1 + 1, 0, none⟩ (.int .i64 cd)) := Wr.trans (b := w8.setCell ⟨B + 1 + 1, 0, none⟩ (.pointer none)) (Wr.trans (b := w8) (hW8.weak (fun b e => Or.inl e)) (Wr.cell _ (Or.inr (Or.inl rfl)))) (Wr.cell _ (Or.inr (Or.inr rfl)))
       have hxE : Xt w ((w8.setCell ⟨B + 1 + 1, 0, none⟩ (.pointer none)).setCell ⟨B + 1 + 1 + 1, 0, none⟩ (.int .i64 cd)) := hWE.xt HXWW.out (fun b hb => by rcases hb with e | e | e <;> omega);refine ⟨⟨hWE.size, fun k o hB hk _ => (hWE.block k (g_ hk).1 (fun e => by rcases e with e | e | e <;> omega)).trans hk⟩, rfl, hxE, ?_, HPN.out H0.out, ?_⟩
       . exact (s_ _ _ _ _ (by simp)).trans (ysv HQ1.out 0 _)
       . rw [h41.out]; exact ysv ((s_ _ _ _ _ (by simp)).trans HQ2.out) 0 _
end
section
open Go.RowKit Go.Sort Go.Maps Go.Shelf Go.MapKept
theorem jkv {w : World} {b1 b2 : Nat} {x y u v : Value} (h1 : w.cell? ⟨b1, 0, none⟩ = some x) (h2 : w.cell? ⟨b2, 0, none⟩ = some y) (hne : b1 ≠ b2) :
    ((w.setCell ⟨b1, 0, none⟩ u).setCell ⟨b2, 0, none⟩ v).cell? ⟨b1, 0, none⟩ = some u /\ ((w.setCell ⟨b1, 0, none⟩ u).setCell ⟨b2, 0, none⟩ v).cell? ⟨b2, 0, none⟩ = some v :=
 ⟨(o_ _ _ _ _ (by simp <;> omega)).trans (k_ _ _ _ h1), k_ _ _ _ ((o_ _ _ _ _ (by simp <;> omega)).trans h2)⟩
theorem jFX (f : ArT) (g : Ad) (gb : Nat) (w : World) (hv : ygU f.a f.b f.c f.d = false) :
    Calls Tryz.prog 27 #[v_ gb, arT f, .agg #[g.1, g.2]] w fun e w' => e = .returned (.tuple #[.pointer none, .int .i64 1]) /\ Xt w w' := by
 obtain ⟨B, hB⟩ := e_ w.heap.size;obtain ⟨wx0, wx1, wx2, w0, hwx0, hswx0, hwx1, hswx1, hwx2, hswx2, hw0, hsw0, HX0, HR0, HR1, HR2, HR3⟩ := bx4 hB #[.int .i64 f.a, .int .i64 f.b, .int .i64 f.c, .int .i64 f.d] #[.int .i64 g.1, .int .i64 g.2] #[.pointer none] #[.int .i64 0] 26 24 29 35;have HVA := h_ (fun V => jwl f.a f.b f.c f.d V);rw [hv] at HVA;obtain ⟨⟨a0, a1, a2, a3⟩, _⟩ := jr0 (HR0.out);obtain ⟨b0, b1, _, _⟩ := zxi (HR1.out);obtain ⟨p0, p1⟩ := yvw (HR2.out);obtain ⟨r0, r1⟩ := yvw (HR3.out);clear hv;go_enter Tryz.func27, Tryz.ntmps27;go_wp2_with (first
  | (go_at_call 40; refine (HVA.out _).mono ?_; rintro e w1 ⟨rfl, hg1⟩; have HXC : Hid (Xt w0 w1) := hg1.xt; obtain ⟨⟨a0, a1, a2, a3⟩, _⟩ := jr0 (rowX HXC.out HR0.out); obtain ⟨b0, b1, _, _⟩ := zxi (rowX HXC.out HR1.out); obtain ⟨p0, p1⟩ := yvw (rowX HXC.out HR2.out); obtain ⟨r0, r1⟩ := yvw (rowX HXC.out HR3.out); clear hg1))
 obtain ⟨k1, k2⟩ := jkv (u := .pointer none) (v := .int .i64 1) p0 r0 (by omega);have hx : Xt w ((w1.setCell ⟨B + 1 + 1, 0, none⟩ (.pointer none)).setCell ⟨B + 1 + 1 + 1, 0, none⟩ (.int .i64 1)) := ((HX0.out.trans HXC.out).grownB (yiv _ _ _ _) (fun q hq => by cases hq; omega)).grownB (yiv _ _ _ _) (fun q hq => by cases hq; omega)
 (try simp only [Exit.inBlock, Exit.then])
 refine p_ (yGx rfl _ _ (B + 1 + 1) (B + 1 + 1 + 1) (.pointer none) (.int .i64 1) rfl rfl (zDK _ _ _ k1) (jVH _ _ _ k2)) rfl ?_;exact ⟨rfl, hx⟩
theorem zlO (f : ArT) (g : Ad) (gb : Nat) (w : World) (hv : ygU f.a f.b f.c f.d = true) (hv1 : (y8L g.1 g.2 && y8L (zyU f g).1 (zyU f g).2) = false) :
    Calls Tryz.prog 27 #[v_ gb, arT f, .agg #[g.1, g.2]] w fun e w' => e = .returned (.tuple #[.pointer none, .int .i64 20]) /\ Xt w w' := by
 obtain ⟨B, hB⟩ := e_ w.heap.size;obtain ⟨wx0, wx1, wx2, w0, hwx0, hswx0, hwx1, hswx1, hwx2, hswx2, hw0, hsw0, HX0, HR0, HR1, HR2, HR3⟩ := bx4 hB #[.int .i64 f.a, .int .i64 f.b, .int .i64 f.c, .int .i64 f.d] #[.int .i64 g.1, .int .i64 g.2] #[.pointer none] #[.int .i64 0] 26 24 29 35;have HVA := h_ (fun V => jwl f.a f.b f.c f.d V);rw [hv] at HVA;have HTH := h_ (fun V => j3Y f g V);rw [hv1] at HTH;obtain ⟨gl, hgl⟩ := e_ (zJt f g);rw [hgl] at HTH;obtain ⟨⟨a0, a1, a2, a3⟩, _⟩ := jr0 (HR0.out);obtain ⟨b0, b1, _, _⟩ := zxi (HR1.out);obtain ⟨p0, p1⟩ := yvw (HR2.out);obtain ⟨r0, r1⟩ := yvw (HR3.out);clear hv hv1;clear hgl
 go_enter Tryz.func27, Tryz.ntmps27;go_wp2_with (first
  | (go_at_call 40; refine (HVA.out _).mono ?_; rintro e w1 ⟨rfl, hg1⟩; have HXC : Hid (Xt w0 w1) := hg1.xt; obtain ⟨⟨a0, a1, a2, a3⟩, _⟩ := jr0 (rowX HXC.out HR0.out); obtain ⟨b0, b1, _, _⟩ := zxi (rowX HXC.out HR1.out); obtain ⟨p0, p1⟩ := yvw (rowX HXC.out HR2.out); obtain ⟨r0, r1⟩ := yvw (rowX HXC.out HR3.out); clear hg1)
  | (go_at_call 41; refine (HTH.out _).mono ?_; rintro e w2 ⟨rfl, hx2⟩; obtain ⟨wb, hwb⟩ := e_ (w2.alloc (.cells #[gl.a, gl.b, gl.c, gl.d] 26)); replace HXC : Hid (Xt w0 wb) := (by unfold Hid; rw [<- hwb]; exact (HXC.out.trans hx2).alloc _); obtain ⟨⟨a0, a1, a2, a3⟩, _⟩ := jr0 (rowX HXC.out HR0.out); obtain ⟨b0, b1, _, _⟩ := zxi (rowX HXC.out HR1.out); obtain ⟨p0, p1⟩ := yvw (rowX HXC.out HR2.out); obtain ⟨r0, r1⟩ := yvw (rowX HXC.out HR3.out); clear hx2))
 obtain ⟨k1, k2⟩ := jkv (u := .pointer none) (v := .int .i64 20) p0 r0 (by omega);have hx : Xt w ((wb.setCell ⟨B + 1 + 1, 0, none⟩ (.pointer none)).setCell ⟨B + 1 + 1 + 1, 0, none⟩ (.int .i64 20)) := ((HX0.out.trans HXC.out).grownB (yiv _ _ _ _) (fun q hq => by cases hq; omega)).grownB (yiv _ _ _ _) (fun q hq => by cases hq; omega)
 (try simp only [Exit.inBlock, Exit.then])
 refine p_ (yGx rfl _ _ (B + 1 + 1) (B + 1 + 1 + 1) (.pointer none) (.int .i64 20) rfl rfl (zDK _ _ _ k1) (jVH _ _ _ k2)) rfl ?_;exact ⟨rfl, hx⟩
theorem ztP (f : ArT) (g : Ad) (gb : Nat) (w : World) (hv : ygU f.a f.b f.c f.d = false) :
    Calls Tryz.prog 12 #[v_ gb, arT f, .agg #[g.1, g.2]] w fun e w' => e = .returned (.tuple #[.pointer none, .int .i64 1]) /\ Xt w w' := by
 obtain ⟨B, hB⟩ := e_ w.heap.size;obtain ⟨wx0, hwx0⟩ := e_ (w.alloc (.cells #[f.a, f.b, f.c, f.d] 26));have hswx0 : wx0.heap.size = B + 1 := (by rw [<- hwx0]; simp [hB]);obtain ⟨w0, hw0⟩ := e_ (wx0.alloc (.cells #[g.1, g.2] 24));have hsw0 : w0.heap.size = B + 1 + 1 := (by rw [<- hw0]; simp [hswx0]);have HX0 : Hid (Xt w w0) := by unfold Hid; rw [<- hw0, <- hwx0]; exact ((Xt.refl _).alloc _).alloc _
 have HR0 : Hid (r_ w0 B #[f.a, f.b, f.c, f.d] 26) := rowX (w := wx0) (by rw [<- hw0]; exact (Xt.refl _).alloc _) (by rw [<- hwx0, <- hB]; exact (a_ w _).1);have HR1 : Hid (r_ w0 (B + 1) #[g.1, g.2] 24) := (by unfold Hid; rw [<- hw0, <- hswx0]; exact (a_ wx0 _).1);have HVA := h_ (fun V => jwl f.a f.b f.c f.d V);rw [hv] at HVA;obtain ⟨⟨a0, a1, a2, a3⟩, _⟩ := jr0 (HR0.out);obtain ⟨b0, b1, _, _⟩ := zxi (HR1.out);clear hv;go_enter Tryz.func12, Tryz.ntmps12;go_wp2_with (first
  | (go_at_call 40; refine (HVA.out _).mono ?_; rintro e w1 ⟨rfl, hg1⟩; have HXC : Hid (Xt w0 w1) := hg1.xt; obtain ⟨⟨a0, a1, a2, a3⟩, _⟩ := jr0 (rowX HXC.out HR0.out); obtain ⟨b0, b1, _, _⟩ := zxi (rowX HXC.out HR1.out); clear hg1))
 go_ret2
 exact ⟨rfl, HX0.out.trans HXC.out⟩
theorem jz9 (f : ArT) (g : Ad) (gb : Nat) (w : World) (hv : ygU f.a f.b f.c f.d = true) (hv1 : (y8L g.1 g.2 && y8L (zyU f g).1 (zyU f g).2) = false) :
    Calls Tryz.prog 12 #[v_ gb, arT f, .agg #[g.1, g.2]] w fun e w' => e = .returned (.tuple #[.pointer none, .int .i64 20]) /\ Xt w w' := by
 obtain ⟨B, hB⟩ := e_ w.heap.size;obtain ⟨wx0, hwx0⟩ := e_ (w.alloc (.cells #[f.a, f.b, f.c, f.d] 26));have hswx0 : wx0.heap.size = B + 1 := (by rw [<- hwx0]; simp [hB]);obtain ⟨w0, hw0⟩ := e_ (wx0.alloc (.cells #[g.1, g.2] 24));have hsw0 : w0.heap.size = B + 1 + 1 := (by rw [<- hw0]; simp [hswx0]);have HX0 : Hid (Xt w w0) := by unfold Hid; rw [<- hw0, <- hwx0]; exact ((Xt.refl _).alloc _).alloc _
 have HR0 : Hid (r_ w0 B #[f.a, f.b, f.c, f.d] 26) := rowX (w := wx0) (by rw [<- hw0]; exact (Xt.refl _).alloc _) (by rw [<- hwx0, <- hB]; exact (a_ w _).1);have HR1 : Hid (r_ w0 (B + 1) #[g.1, g.2] 24) := (by unfold Hid; rw [<- hw0, <- hswx0]; exact (a_ wx0 _).1);have HVA := h_ (fun V => jwl f.a f.b f.c f.d V);rw [hv] at HVA;have HTH := h_ (fun V => j3Y f g V);rw [hv1] at HTH;obtain ⟨gl, hgl⟩ := e_ (zJt f g);rw [hgl] at HTH;obtain ⟨⟨a0, a1, a2, a3⟩, _⟩ := jr0 (HR0.out)
 obtain ⟨b0, b1, _, _⟩ := zxi (HR1.out);clear hv hv1;clear hgl;go_enter Tryz.func12, Tryz.ntmps12;go_wp2_with (first
  | (go_at_call 40; refine (HVA.out _).mono ?_; rintro e w1 ⟨rfl, hg1⟩; have HXC : Hid (Xt w0 w1) := hg1.xt; obtain ⟨⟨a0, a1, a2, a3⟩, _⟩ := jr0 (rowX HXC.out HR0.out); obtain ⟨b0, b1, _, _⟩ := zxi (rowX HXC.out HR1.out); clear hg1)
  | (go_at_call 41; refine (HTH.out _).mono ?_; rintro e w2 ⟨rfl, hx2⟩; obtain ⟨wb, hwb⟩ := e_ (w2.alloc (.cells #[gl.a, gl.b, gl.c, gl.d] 26)); replace HXC : Hid (Xt w0 wb) := (by unfold Hid; rw [<- hwb]; exact (HXC.out.trans hx2).alloc _); obtain ⟨⟨a0, a1, a2, a3⟩, _⟩ := jr0 (rowX HXC.out HR0.out); obtain ⟨b0, b1, _, _⟩ := zxi (rowX HXC.out HR1.out); clear hx2))
 go_ret2
 exact ⟨rfl, HX0.out.trans HXC.out⟩
theorem jUp (f : ArT) (gb : Nat) (w : World) (hv : ygU f.a f.b f.c f.d = false) :
    Calls Tryz.prog 29 #[v_ gb, arT f] w fun e w' => e = .returned (.tuple #[.pointer none, .int .i64 1]) /\ Xt w w' := by
 obtain ⟨B, hB⟩ := e_ w.heap.size;obtain ⟨w0, hw0⟩ := e_ (w.alloc (.cells #[f.a, f.b, f.c, f.d] 26));have hsw0 : w0.heap.size = B + 1 := (by rw [<- hw0]; simp [hB]);have HX0 : Hid (Xt w w0) := (by unfold Hid; rw [<- hw0]; exact (Xt.refl _).alloc _);have HR0 : Hid (r_ w0 B #[f.a, f.b, f.c, f.d] 26) := (by unfold Hid; rw [<- hw0, <- hB]; exact (a_ w _).1);have HVA := h_ (fun V => jwl f.a f.b f.c f.d V);rw [hv] at HVA;obtain ⟨⟨a0, a1, a2, a3⟩, _⟩ := jr0 (HR0.out);clear hv;go_enter Tryz.func29, Tryz.ntmps29;go_wp2_with (first
  | (go_at_call 40; refine (HVA.out _).mono ?_; rintro e w1 ⟨rfl, hg1⟩; have HXC : Hid (Xt w0 w1) := hg1.xt; obtain ⟨⟨a0, a1, a2, a3⟩, _⟩ := jr0 (rowX HXC.out HR0.out); clear hg1))
 go_ret2
 exact ⟨rfl, HX0.out.trans HXC.out⟩
theorem y2E (f : ArT) (g : Ad) (gb : Nat) (w : World) (hv : ygU f.a f.b f.c f.d = false) :
    Calls Tryz.prog 28 #[v_ gb, .agg #[g.1, g.2], arT f] w fun e w' => e = .returned (.tuple #[.pointer none, .int .i64 1]) /\ Xt w w' := by
 obtain ⟨B, hB⟩ := e_ w.heap.size;obtain ⟨wx0, wx1, wx2, w0, hwx0, hswx0, hwx1, hswx1, hwx2, hswx2, hw0, hsw0, HX0, HR0, HR1, HR2, HR3⟩ := bx4 hB #[.int .i64 g.1, .int .i64 g.2] #[.int .i64 f.a, .int .i64 f.b, .int .i64 f.c, .int .i64 f.d] #[.pointer none] #[.int .i64 0] 24 26 29 35;have HVA := h_ (fun V => jwl f.a f.b f.c f.d V);rw [hv] at HVA;obtain ⟨b0, b1, _, _⟩ := zxi (HR0.out);obtain ⟨⟨a0, a1, a2, a3⟩, _⟩ := jr0 (HR1.out);obtain ⟨p0, p1⟩ := yvw (HR2.out);obtain ⟨r0, r1⟩ := yvw (HR3.out);clear hv;go_enter Tryz.func28, Tryz.ntmps28;go_wp2_with (first
  | (go_at_call 40; refine (HVA.out _).mono ?_; rintro e w1 ⟨rfl, hg1⟩; have HXC : Hid (Xt w0 w1) := hg1.xt; obtain ⟨b0, b1, _, _⟩ := zxi (rowX HXC.out HR0.out); obtain ⟨⟨a0, a1, a2, a3⟩, _⟩ := jr0 (rowX HXC.out HR1.out); obtain ⟨p0, p1⟩ := yvw (rowX HXC.out HR2.out); obtain ⟨r0, r1⟩ := yvw (rowX HXC.out HR3.out); clear hg1))
 obtain ⟨k1, k2⟩ := jkv (u := .pointer none) (v := .int .i64 1) p0 r0 (by omega);have hx : Xt w ((w1.setCell ⟨B + 1 + 1, 0, none⟩ (.pointer none)).setCell ⟨B + 1 + 1 + 1, 0, none⟩ (.int .i64 1)) := ((HX0.out.trans HXC.out).grownB (yiv _ _ _ _) (fun q hq => by cases hq; omega)).grownB (yiv _ _ _ _) (fun q hq => by cases hq; omega)
 (try simp only [Exit.inBlock, Exit.then])
 refine p_ (yGx rfl _ _ (B + 1 + 1) (B + 1 + 1 + 1) (.pointer none) (.int .i64 1) rfl rfl (zDK _ _ _ k1) (jVH _ _ _ k2)) rfl ?_;exact ⟨rfl, hx⟩
theorem zY3 (f : ArT) (g : Ad) (gb : Nat) (w : World) (hv : ygU f.a f.b f.c f.d = true) (hv1 : y8L g.1 g.2 = false) :
    Calls Tryz.prog 28 #[v_ gb, .agg #[g.1, g.2], arT f] w fun e w' => e = .returned (.tuple #[.pointer none, .int .i64 20]) /\ Xt w w' := by
 obtain ⟨B, hB⟩ := e_ w.heap.size;obtain ⟨wx0, wx1, wx2, w0, hwx0, hswx0, hwx1, hswx1, hwx2, hswx2, hw0, hsw0, HX0, HR0, HR1, HR2, HR3⟩ := bx4 hB #[.int .i64 g.1, .int .i64 g.2] #[.int .i64 f.a, .int .i64 f.b, .int .i64 f.c, .int .i64 f.d] #[.pointer none] #[.int .i64 0] 24 26 29 35;have HVA := h_ (fun V => jwl f.a f.b f.c f.d V);rw [hv] at HVA;have HVB := h_ (fun V => zpQ g.1 g.2 V);rw [hv1] at HVB;obtain ⟨b0, b1, _, _⟩ := zxi (HR0.out);obtain ⟨⟨a0, a1, a2, a3⟩, _⟩ := jr0 (HR1.out);obtain ⟨p0, p1⟩ := yvw (HR2.out);obtain ⟨r0, r1⟩ := yvw (HR3.out);clear hv hv1;go_enter Tryz.func28, Tryz.ntmps28;go_wp2_with (first
  | (go_at_call 40; refine (HVA.out _).mono ?_; rintro e w1 ⟨rfl, hg1⟩; have HXC : Hid (Xt w0 w1) := hg1.xt; obtain ⟨b0, b1, _, _⟩ := zxi (rowX HXC.out HR0.out); obtain ⟨⟨a0, a1, a2, a3⟩, _⟩ := jr0 (rowX HXC.out HR1.out); obtain ⟨p0, p1⟩ := yvw (rowX HXC.out HR2.out); obtain ⟨r0, r1⟩ := yvw (rowX HXC.out HR3.out); clear hg1)
  | (go_at_call 63; refine (HVB.out _).mono ?_; rintro e w2 ⟨rfl, hg2⟩; have hx2 : Xt w1 w2 := (by rw [hg2]; exact (Xt.refl _).alloc _); replace HXC := h_ (HXC.out.trans hx2); obtain ⟨b0, b1, _, _⟩ := zxi (rowX HXC.out HR0.out); obtain ⟨⟨a0, a1, a2, a3⟩, _⟩ := jr0 (rowX HXC.out HR1.out); obtain ⟨p0, p1⟩ := yvw (rowX HXC.out HR2.out); obtain ⟨r0, r1⟩ := yvw (rowX HXC.out HR3.out); clear hg2 hx2))
 obtain ⟨k1, k2⟩ := jkv (u := .pointer none) (v := .int .i64 20) p0 r0 (by omega);have hx : Xt w ((w2.setCell ⟨B + 1 + 1, 0, none⟩ (.pointer none)).setCell ⟨B + 1 + 1 + 1, 0, none⟩ (.int .i64 20)) := ((HX0.out.trans HXC.out).grownB (yiv _ _ _ _) (fun q hq => by cases hq; omega)).grownB (yiv _ _ _ _) (fun q hq => by cases hq; omega)
 (try simp only [Exit.inBlock, Exit.then])
 refine p_ (yGx rfl _ _ (B + 1 + 1) (B + 1 + 1 + 1) (.pointer none) (.int .i64 20) rfl rfl (zDK _ _ _ k1) (jVH _ _ _ k2)) rfl ?_;exact ⟨rfl, hx⟩
theorem zOq (f : ArT) (g : Ad) (w : World) :
    Calls Tryz.prog 27 #[.pointer none, arT f, .agg #[g.1, g.2]] w fun e w' => e = .returned (.tuple #[.pointer none, .int .i64 1]) /\ Xt w w' := by
 obtain ⟨B, hB⟩ := e_ w.heap.size;obtain ⟨wx0, wx1, wx2, w0, hwx0, hswx0, hwx1, hswx1, hwx2, hswx2, hw0, hsw0, HX0, HR0, HR1, HR2, HR3⟩ := bx4 hB #[.int .i64 f.a, .int .i64 f.b, .int .i64 f.c, .int .i64 f.d] #[.int .i64 g.1, .int .i64 g.2] #[.pointer none] #[.int .i64 0] 26 24 29 35;obtain ⟨⟨a0, a1, a2, a3⟩, _⟩ := jr0 (HR0.out);obtain ⟨b0, b1, _, _⟩ := zxi (HR1.out);obtain ⟨p0, p1⟩ := yvw (HR2.out);obtain ⟨r0, r1⟩ := yvw (HR3.out);go_enter Tryz.func27, Tryz.ntmps27;have HXC : Hid (Xt w0 w0) := Xt.refl _;go_wp2_with fail;obtain ⟨k1, k2⟩ := jkv (u := .pointer none) (v := .int .i64 1) p0 r0 (by omega)
 have hx : Xt w ((w0.setCell ⟨B + 1 + 1, 0, none⟩ (.pointer none)).setCell ⟨B + 1 + 1 + 1, 0, none⟩ (.int .i64 1)) := ((HX0.out.trans HXC.out).grownB (yiv _ _ _ _) (fun q hq => by cases hq; omega)).grownB (yiv _ _ _ _) (fun q hq => by cases hq; omega)
 (try simp only [Exit.inBlock, Exit.then])
 refine p_ (yGx rfl _ _ (B + 1 + 1) (B + 1 + 1 + 1) (.pointer none) (.int .i64 1) rfl rfl (zDK _ _ _ k1) (jVH _ _ _ k2)) rfl ?_;exact ⟨rfl, hx⟩
theorem jto (f : ArT) (g : Ad) (w : World) :
    Calls Tryz.prog 12 #[.pointer none, arT f, .agg #[g.1, g.2]] w fun e w' => e = .returned (.tuple #[.pointer none, .int .i64 1]) /\ Xt w w' := by
 obtain ⟨B, hB⟩ := e_ w.heap.size;obtain ⟨wx0, hwx0⟩ := e_ (w.alloc (.cells #[f.a, f.b, f.c, f.d] 26));have hswx0 : wx0.heap.size = B + 1 := (by rw [<- hwx0]; simp [hB]);obtain ⟨w0, hw0⟩ := e_ (wx0.alloc (.cells #[g.1, g.2] 24));have hsw0 : w0.heap.size = B + 1 + 1 := (by rw [<- hw0]; simp [hswx0]);have HX0 : Hid (Xt w w0) := by unfold Hid; rw [<- hw0, <- hwx0]; exact ((Xt.refl _).alloc _).alloc _
 have HR0 : Hid (r_ w0 B #[f.a, f.b, f.c, f.d] 26) := rowX (w := wx0) (by rw [<- hw0]; exact (Xt.refl _).alloc _) (by rw [<- hwx0, <- hB]; exact (a_ w _).1);have HR1 : Hid (r_ w0 (B + 1) #[g.1, g.2] 24) := (by unfold Hid; rw [<- hw0, <- hswx0]; exact (a_ wx0 _).1);obtain ⟨⟨a0, a1, a2, a3⟩, _⟩ := jr0 (HR0.out);obtain ⟨b0, b1, _, _⟩ := zxi (HR1.out);go_enter Tryz.func12, Tryz.ntmps12;have HXC : Hid (Xt w0 w0) := Xt.refl _;go_wp2_with fail
 go_ret2
 exact ⟨rfl, HX0.out.trans HXC.out⟩
theorem jY6 (f : ArT) (w : World) :
    Calls Tryz.prog 29 #[.pointer none, arT f] w fun e w' => e = .returned (.tuple #[.pointer none, .int .i64 1]) /\ Xt w w' := by
 obtain ⟨B, hB⟩ := e_ w.heap.size;obtain ⟨w0, hw0⟩ := e_ (w.alloc (.cells #[f.a, f.b, f.c, f.d] 26));have hsw0 : w0.heap.size = B + 1 := (by rw [<- hw0]; simp [hB]);have HX0 : Hid (Xt w w0) := (by unfold Hid; rw [<- hw0]; exact (Xt.refl _).alloc _);have HR0 : Hid (r_ w0 B #[f.a, f.b, f.c, f.d] 26) := (by unfold Hid; rw [<- hw0, <- hB]; exact (a_ w _).1);obtain ⟨⟨a0, a1, a2, a3⟩, _⟩ := jr0 (HR0.out);go_enter Tryz.func29, Tryz.ntmps29;have HXC : Hid (Xt w0 w0) := Xt.refl _;go_wp2_with fail
 go_ret2
 exact ⟨rfl, HX0.out.trans HXC.out⟩
theorem yGf (f : ArT) (g : Ad) (w : World) :
    Calls Tryz.prog 28 #[.pointer none, .agg #[g.1, g.2], arT f] w fun e w' => e = .returned (.tuple #[.pointer none, .int .i64 1]) /\ Xt w w' := by
 obtain ⟨B, hB⟩ := e_ w.heap.size;obtain ⟨wx0, wx1, wx2, w0, hwx0, hswx0, hwx1, hswx1, hwx2, hswx2, hw0, hsw0, HX0, HR0, HR1, HR2, HR3⟩ := bx4 hB #[.int .i64 g.1, .int .i64 g.2] #[.int .i64 f.a, .int .i64 f.b, .int .i64 f.c, .int .i64 f.d] #[.pointer none] #[.int .i64 0] 24 26 29 35;obtain ⟨b0, b1, _, _⟩ := zxi (HR0.out);obtain ⟨⟨a0, a1, a2, a3⟩, _⟩ := jr0 (HR1.out);obtain ⟨p0, p1⟩ := yvw (HR2.out);obtain ⟨r0, r1⟩ := yvw (HR3.out);go_enter Tryz.func28, Tryz.ntmps28;have HXC : Hid (Xt w0 w0) := Xt.refl _;go_wp2_with fail;obtain ⟨k1, k2⟩ := jkv (u := .pointer none) (v := .int .i64 1) p0 r0 (by omega)
 have hx : Xt w ((w0.setCell ⟨B + 1 + 1, 0, none⟩ (.pointer none)).setCell ⟨B + 1 + 1 + 1, 0, none⟩ (.int .i64 1)) := ((HX0.out.trans HXC.out).grownB (yiv _ _ _ _) (fun q hq => by cases hq; omega)).grownB (yiv _ _ _ _) (fun q hq => by cases hq; omega)
 (try simp only [Exit.inBlock, Exit.then])
 refine p_ (yGx rfl _ _ (B + 1 + 1) (B + 1 + 1 + 1) (.pointer none) (.int .i64 1) rfl rfl (zDK _ _ _ k1) (jVH _ _ _ k2)) rfl ?_;exact ⟨rfl, hx⟩
theorem zsE (cols : Bool) (at_ n : Int) (w : World) :
    Calls Tryz.prog 73 #[.pointer none, .bool cols, .int .i64 at_, .int .i64 n] w fun e w' => e = .returned (.tuple #[.pointer none, .int .i64 1]) /\ Xt w w' := by
 obtain ⟨B, hB⟩ := e_ w.heap.size;have HBw := h_ hB;obtain ⟨ok, hok⟩ := e_ ((jls (yaC cols) at_ n).2);have HM := h_ (yW1 cols at_ n);simp only [hok] at HM;have HL : Hid ((jls (yaC cols) at_ n).1 = ⟨at_, n, yaC cols⟩) := rfl;rw [HL.out] at HM;have HOK := h_ hok;obtain ⟨N, hN⟩ := e_ (yaC cols);rw [hN] at HM;have HN := h_ hN;obtain ⟨wa, hwa⟩ := e_ (w.alloc (.cells #[.int .i64 n] 3));have hsa : wa.heap.size = B + 1 := (by rw [<- hwa, <- hB]; simp);obtain ⟨wb, hwb⟩ := e_ (wa.alloc (.cells #[.pointer none] 29));have hsb : wb.heap.size = B + 1 + 1 := by rw [<- hwb]; simp [hsa]
 obtain ⟨w0, hw0⟩ := e_ (wb.alloc (.cells #[.int .i64 0] 35));have hs0 : w0.heap.size = B + 1 + 1 + 1 := (by rw [<- hw0]; simp [hsb]);have hx0 : Xt w w0 := (by rw [<- hw0, <- hwb, <- hwa]; exact (((Xt.refl _).alloc _).alloc _).alloc _);have hr0 : w0.heap[B]? = some (.cells #[.int .i64 n] 3 (0, 0)) := rowX (w := wa) (by rw [<- hw0, <- hwb]; exact ((Xt.refl _).alloc _).alloc _) (by rw [<- hwa, <- hB]; exact (a_ w _).1);have hr1 : w0.heap[B + 1]? = some (.cells #[.pointer none] 29 (0, 0)) := rowX (w := wb) (by rw [<- hw0]; exact (Xt.refl _).alloc _) (by rw [<- hwb, <- hsa]; exact (a_ wa _).1)
 have hr2 : w0.heap[B + 1 + 1]? = some (.cells #[.int .i64 0] 35 (0, 0)) := (by rw [<- hw0, <- hsb]; exact (a_ wb _).1);have hc0 : w0.cell? ⟨B, 0, none⟩ = some (.int .i64 n) := (by simp [World.cell?, hr0]);have HX0 := h_ hx0;have HR0 := h_ hr0;have HR1 := h_ hr1;have HR2 := h_ hr2;clear hok hN HL hr0 hr1 hr2 hx0;refine (callsIn_wide (n := 25)).1 ?_;refine callsIn_of_wp_marks Tryz.func73 rfl trivial ?_ rfl;simp only [Tryz.ntmps73, List.size_toArray, List.length_cons, List.length_nil, Nat.reduceAdd, Nat.reduceSub, Array.replicate_succ, Array.replicate_zero, List.push_toArray, List.append_toArray, List.nil_append, List.cons_append];refine wpIn_wide.2 ?_
 refine wp_mono (Q := yUX (bodyPostM Fence.wide 25 Tryz.prog Tryz.f73 (fun e w' => e = .returned (.tuple #[.pointer none, .int .i64 1]) /\ Xt w w'))) ?_ yqv;go_wp2_with (first
  | (go_at_call 114; refine (HM.out _).mono ?_; rintro e w1 ⟨rfl, hx1⟩; obtain ⟨wA, hwA⟩ := e_ (w1.alloc (.cells #[.int .i64 at_, .int .i64 n, .int .i64 N] 147)); have HXA : Hid (Xt w0 wA) := (by unfold Hid; rw [<- hwA]; exact hx1.alloc _); obtain ⟨c1, f1⟩ := yvw (rowX HXA.out HR1.out); obtain ⟨c2, f2⟩ := yvw (rowX HXA.out HR2.out); clear hx1))
 obtain ⟨W', hW'⟩ := e_ ((wA.setCell ⟨B + 1, 0, none⟩ (.pointer none)).setCell ⟨B + 1 + 1, 0, none⟩ (.int .i64 1));have k1 : W'.cell? ⟨B + 1, 0, none⟩ = some (.pointer none) := (by rw [<- hW', o_ _ _ _ _ (by simp)]; exact k_ _ _ _ c1);have k2 : W'.cell? ⟨B + 1 + 1, 0, none⟩ = some (.int .i64 1) := (by rw [<- hW']; exact k_ _ _ _ ((o_ _ _ _ _ (by simp)).trans c2));have hxW : Xt w W' := (by rw [<- hW']; exact ((HX0.out.trans HXA.out).grownB (yiv _ _ _ _) (fun q hq => by cases hq; rw [hB]; omega)).grownB (yiv _ _ _ _) (fun q hq => by cases hq; rw [hB]; omega));rw [hW']
 exact ⟨_, yGx rfl _ _ (B + 1) (B + 1 + 1) (.pointer none) (.int .i64 1) rfl rfl (zDK _ _ _ k1) (jVH _ _ _ k2), rfl, hxW⟩
theorem ji9 (at_ n : Int) (w : World) :
    Calls Tryz.prog 33 #[.pointer none, .int .i64 at_, .int .i64 n] w fun e w' => e = .returned (.tuple #[.pointer none, .int .i64 1]) /\ Xt w w' := by
 have HB := h_ (zsE false at_ n w);go_enter Tryz.func33, Tryz.ntmps33;go_wp2_with (first | (go_at_call 73; refine (HB.out).mono ?_; rintro e w1 ⟨rfl, hx⟩))
 go_ret2
 exact ⟨rfl, hx⟩
theorem zsG (at_ n : Int) (w : World) :
    Calls Tryz.prog 34 #[.pointer none, .int .i64 at_, .int .i64 n] w fun e w' => e = .returned (.tuple #[.pointer none, .int .i64 1]) /\ Xt w w' := by
 have HB := h_ (zsE true at_ n w);go_enter Tryz.func34, Tryz.ntmps34;go_wp2_with (first | (go_at_call 73; refine (HB.out).mono ?_; rintro e w1 ⟨rfl, hx⟩))
 go_ret2
 exact ⟨rfl, hx⟩
end
end Go.Proofs.YtdoeejhdenifpaaGreatDoor
