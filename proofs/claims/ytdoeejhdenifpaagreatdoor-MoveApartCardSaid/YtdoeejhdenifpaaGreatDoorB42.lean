import Derived.Test.YtdoeejhdenifpaaGreatDoorB40
import Derived.Test.YtdoeejhdenifpaaGreatDoorB33
import Derived.Deep.RegionHeld3
set_option maxRecDepth 100000
set_option maxHeartbeats 16000000
namespace Go.Proofs.YtdoeejhdenifpaaGreatDoor
section
open Go.RowKit Go.Sort Go.Maps Go.Shelf Go.MapKept
structure Pair (w : World) (gb mb : Nat) (M : GM) (rb : Nat) (l : List PI) : Prop where
 g : GridIs w gb mb M
 r : DG w rb l
 e : er M = pis l
 ok : GOk (pis l)
 n1 : rb ≠ mb
 n2 : rb ≠ gb
theorem Pair.xt {w w' : World} {gb mb rb : Nat} {M : GM} {l : List PI} (h : Pair w gb mb M rb l) (hx : Xt w w') : Pair w' gb mb M rb l := ⟨h.g.xt hx, h.r.xt hx, h.e, h.ok, h.n1, h.n2⟩
theorem DG.one {w : World} {rb : Nat} {l : List PI} (h : DG w rb l) : ∀ o u, w.cell? ⟨rb, o, none⟩ = some u -> o = 0 := fun o u hu => by
 obtain ⟨v, ho, _⟩ := h.obj;simp only [World.cell?, ho] at hu;rcases o with _ | o
 . rfl
 . simp at hu
theorem DG.byMap {w w' : World} {rb : Nat} {l : List PI} (h : DG w rb l) {gb mb : Nat} {M : GM} (hG : GridIs w gb mb M) (hg : w.grownBy w' (some mb)) (hne : rb ≠ mb) : DG w' rb l := by
 obtain ⟨E, hm, _⟩ := hG.map;obtain ⟨v, ho, hp⟩ := h.obj;exact ⟨⟨v, (hg.block rb h.lt (fun e => hne (by cases e; rfl))).trans ho, hp.kept (CellsIn.of_grown hm hg)⟩, h.sorted, h.many, h.small⟩
theorem GridIs.byDoc {w w' : World} {gb mb : Nat} {M : GM} (hG : GridIs w gb mb M) {rb : Nat} {l : List PI} (h : DG w rb l) (hg : w.grownBy w' (some rb)) (h1 : rb ≠ mb) (h2 : rb ≠ gb) : GridIs w' gb mb M := by
 have hk : ∀ b o u, b ≠ rb -> w.cell? ⟨b, o, none⟩ = some u -> w'.cell? ⟨b, o, none⟩ = some u := fun b o u hb hu => (d_ (w := w) (a := ⟨b, o, none⟩) (hg.block b (b_ w _ hu) (fun e => hb (by cases e; rfl)))).trans hu;refine ⟨hk _ _ _ (fun e => h2 e.symm) hG.cell, ?_, hG.sorted, fun x hx => ?_, hG.many⟩
 . obtain ⟨E, hm, he⟩ := hG.map;exact ⟨E, hm.of_heap (hg.block mb hm.lt (fun e => h1 (by cases e; rfl))), he⟩
 . obtain ⟨hs, n, hn⟩ := hG.args x hx;exact ⟨hs, n, hn.but h.one hk⟩
theorem DG.byDoc {w w' : World} {rb rc : Nat} {l k : List PI} (h : DG w rb l) (hc : DG w rc k) (hg : w.grownBy w' (some rc)) (hne : rb ≠ rc) : DG w' rb l := by
 have hk : ∀ b o u, b ≠ rc -> w.cell? ⟨b, o, none⟩ = some u -> w'.cell? ⟨b, o, none⟩ = some u := fun b o u hb hu => (d_ (w := w) (a := ⟨b, o, none⟩) (hg.block b (b_ w _ hu) (fun e => hb (by cases e; rfl)))).trans hu;obtain ⟨v, ho, hp⟩ := h.obj;exact ⟨⟨v, (hg.block rb h.lt (fun e => hne (by cases e; rfl))).trans ho, hp.but hc.one hk⟩, h.sorted, h.many, h.small⟩
theorem GridIs.byMap {w w' : World} {gb mb gc mc : Nat} {M N : GM} (h : GridIs w gb mb M) (hc : GridIs w gc mc N) (hg : w.grownBy w' (some mc)) (hne : mb ≠ mc) : GridIs w' gb mb M := by
 obtain ⟨E, hm, _⟩ := hc.map;exact h.kept (CellsIn.of_grown hm hg) (hg.block mb h.lt.2 (fun e => hne (by cases e; rfl)))
theorem Pair.put {w w1 w2 : World} {gb mb rb : Nat} {M M' : GM} {l l' : List PI} (h : Pair w gb mb M rb l) {a : Ad} {c : ContT} (hok : c.ok) (x : Option Addr) (hM : M' = j4E M a c x) (h1 : GridIs w1 gb mb M') (g2 : w1.grownBy w2 (some rb)) (hD : DG w1 rb l) (h2 : DG w2 rb l') (hl : pis l' = putP (pis l) a c) : Pair w2 gb mb M' rb l' :=
 ⟨h1.byDoc hD g2 h.n1 h.n2, h2, by rw [hM, yZx, h.e, hl], by rw [hl]; exact h.ok.put a hok, h.n1, h.n2⟩
theorem Pair.code {w : World} {gb mb rb : Nat} {M : GM} {l : List PI} (h : Pair w gb mb M rb l) (a : Ad) (c : ContT) : zWI M a c = jJz (pis l) a c := by rw [ycU, h.e]
end
section
open Go.RowKit Go.Sort Go.Maps Go.Shelf Go.MapKept
attribute [local go_sem] Oper.semAt_some
def Mis (l : PG) (pre : List TE) : Prop := ∃ p x, pre = p ++ [x] /\ l[p.length]? ≠ some (tpT x)
theorem mis_not {M : GM} {i : Nat} {pre : List TE} (h : z2c (M.take i) (fun _ => true) pre) (hm : Mis (er M) pre) : False := by
 obtain ⟨p, x, rfl, hne⟩ := hm;have h1 := zuD h;have h2 : er (M.take i) = (er M).take i := (by unfold er; rw [List.map_take]);rw [h2, List.map_append] at h1;have h3 : ((er M).take i)[p.length]? = some (tpT x) := by
  rw [<- h1, List.getElem?_append_right (by simp)];simp
 rw [List.getElem?_take] at h3;split at h3
 . exact hne h3
 . cases h3
theorem jFz (w : World) : Calls Tryz.prog 24 #[.pointer none, .pointer none] w fun e w' => e = .returned (.bool true) /\ Xt w w' := by
 obtain ⟨B, hB⟩ := e_ w.heap.size;obtain ⟨w1, hw1⟩ := e_ (w.alloc (.cells #[.pointer none] 61));have hs1 : w1.heap.size = B + 1 := (by rw [<- hw1, <- hB]; simp);obtain ⟨w2, hw2⟩ := e_ (w1.alloc (.cells #[.bool false] 4));have HX2 : Hid (Xt w w2) := (by unfold Hid; rw [<- hw2, <- hw1]; exact ((Xt.refl _).alloc _).alloc _);have hr0 : w2.heap[B]? = some (.cells #[.pointer none] 61 (0, 0)) := rowX (w := w1) (by rw [<- hw2]; exact (Xt.refl _).alloc _) (by rw [<- hw1, <- hB]; exact (a_ w _).1);have hr1 : w2.heap[B + 1]? = some (.cells #[.bool false] 4 (0, 0)) := by rw [<- hw2, <- hs1]; exact (a_ w1 _).1
 obtain ⟨c0, f0⟩ := yvw hr0;obtain ⟨c1, f1⟩ := yvw hr1;clear hr0 hr1;refine (callsIn_wide (n := 25)).1 ?_;refine callsIn_of_wp_marks Tryz.func24 rfl trivial ?_ rfl;simp only [Tryz.ntmps24, List.size_toArray, List.length_cons, List.length_nil, Nat.reduceAdd, Nat.reduceSub, Array.replicate_succ, Array.replicate_zero, List.push_toArray, List.append_toArray, List.nil_append, List.cons_append];refine wpIn_wide.2 ?_;refine wp_mono (Q := yUX (bodyPostM Fence.wide 25 Tryz.prog Tryz.f24 (fun e w' => e = .returned (.bool true) /\ Xt w w'))) ?_ yqv;go_wp2_with fail
 refine ⟨_, yK3 rfl _ _ (B + 1) (.bool true) rfl (jQf _ _ _ (k_ _ _ _ c1)), rfl, HX2.out.grownB (yiv _ _ _ _) (fun q hq => by cases hq; omega)⟩
theorem jUr (gb mb : Nat) (M : GM) (rb : Nat) (l : List PI) (w : World) (h : Pair w gb mb M rb l) :
    Calls Tryz.prog 24 #[v_ gb, v_ rb] w fun e w' => e = .returned (.bool true) /\ Xt w w' := by
 obtain ⟨B, hB⟩ := e_ w.heap.size;have HG := h_ h.g;have HE := h_ h.e;have HOK := h_ h.ok;have HD := h_ h.r;have hgl := h.g.lt;have hrl := h.r.lt;have hln : l.length <= 4096 := h.r.many;obtain ⟨vv, hc, hP⟩ := h.r.cell;obtain ⟨la, lc, rfl, hlc, hlc2⟩ := hP.shape;have HP := h_ hP;have HC := h_ hc;obtain ⟨w1, hw1⟩ := e_ (w.alloc (.cells #[v_ rb] 61));have hs1 : w1.heap.size = B + 1 := (by rw [<- hw1, <- hB]; simp);obtain ⟨w2a, hw2a⟩ := e_ (w1.alloc (.cells #[.bool false] 4));have hs2a : w2a.heap.size = B + 1 + 1 := by rw [<- hw2a]; simp [hs1]
 have HR1a : Hid (r_ w2a B #[v_ rb] 61) := rowX (w := w1) (by rw [<- hw2a]; exact (Xt.refl _).alloc _) (by rw [<- hw1, <- hB]; exact (a_ w _).1);have HR3a : Hid (r_ w2a (B + 1) #[.bool false] 4) := (by unfold Hid; rw [<- hw2a, <- hs1]; exact (a_ w1 _).1);have HXa : Hid (Xt w w2a) := (by unfold Hid; rw [<- hw2a, <- hw1]; exact ((Xt.refl _).alloc _).alloc _);obtain ⟨ca, _⟩ := yvw HR1a.out;clear h hc hP;refine (callsIn_wide (n := 25)).1 ?_;refine callsIn_of_wp_marks Tryz.func24 rfl trivial ?_ rfl
 simp only [Tryz.ntmps24, List.size_toArray, List.length_cons, List.length_nil, Nat.reduceAdd, Nat.reduceSub, Array.replicate_succ, Array.replicate_zero, List.push_toArray, List.append_toArray, List.nil_append, List.cons_append];refine wpIn_wide.2 ?_;refine wp_mono (Q := yUX (bodyPostM Fence.wide 25 Tryz.prog Tryz.f24 (fun e w' => e = .returned (.bool true) /\ Xt w w'))) ?_ yqv;go_upto_region 4 with fail;obtain ⟨w2, hw2⟩ := e_ (w2a.alloc (.cells #[.int .i64 0] 3));have hs2 : w2.heap.size = B + 1 + 1 + 1 := (by rw [<- hw2]; simp [hs2a]);try simp only [hs2a]
 simp only [hw2];have hx2 : Xt w2a w2 := (by rw [<- hw2]; exact (Xt.refl _).alloc _);have HX2 : Hid (Xt w w2) := h_ (HXa.out.trans hx2);have HR1 := h_ (rowX hx2 HR1a.out);have HR3 := h_ (rowX hx2 HR3a.out);have HRN : Hid (r_ w2 (B + 1 + 1) #[.int .i64 0] 3) := (by unfold Hid; rw [<- hw2, <- hs2a]; exact (a_ w2a _).1);clear hw2 hx2 ca;go_wp2_with (first
  | (go_at_call 30; refine (zQK gb _).mono ?_; rintro e w' ⟨rfl, rfl⟩))
 obtain ⟨W0, hW0⟩ := e_ ((w2.alloc (.cells #[v_ gb] 29)).alloc (.cells #[.func (.func 75) #[] #[]] 99));have hsW : W0.heap.size = B + 5 := (by rw [<- hW0]; simp [hs2]);have HX2W : Hid (Xt w2 W0) := (by unfold Hid; rw [<- hW0]; exact ((Xt.refl _).alloc _).alloc _);have HcgW : W0.cell? ⟨B + 3, 0, none⟩ = some (.pointer (some ⟨gb, 0, none⟩)) := by
  have := rowX (w := w2.alloc (.cells #[v_ gb] 29)) (w' := W0) (by rw [<- hW0]; exact (Xt.refl _).alloc _) (a_ w2 _).1;rw [hs2] at this;exact (yvw this).1
 have rBw : W0.heap[B + 4]? = some (.cells #[.func (.func 75) #[] #[]] 99 (0, 0)) := by
  rw [<- hW0];have := (a_ (w2.alloc (.cells #[v_ gb] 29)) (.cells #[.func (.func 75) #[] #[]] 99)).1;simpa [hs2] using this
 have HXW : Hid (Xt w W0) := HX2.out.trans HX2W.out;have HR1W := h_ (rowX HX2W.out HR1.out);have HR3W := h_ (rowX HX2W.out HR3.out);have HRNW := h_ (rowX HX2W.out HRN.out);try simp only [hs2]
 simp only [hW0];clear hW0 hw1 hw2a hs1 hs2a hs2;generalize hA0 : Act.mk _ _ = a0;refine (wpIn_wide (n := 25)).1 ?_;refine jF4 (n := 25) (by omega) (gf := 116) (lb := #[v_ (B + 3), v_ (B + 4)]) (by subst hA0; rfl) (enters_of Tryz.func116 (by kernel_rfl) rfl)
  (z8H (fun _ => false) 75 #[] (enters_of Tryz.func75 (by kernel_rfl) rfl) (fun _ => true) w.heap.size w rfl (fun _ => True) (fun _ _ _ _ _ => trivial) (fun a W _ => yBt a W) (25 - 1) (by omega) (B + 3) (B + 4) gb mb M HG.out W0 HXW.out trivial (by omega) HcgW rBw)
  (fun h k => ⟨h.1.trans k.1, h.2.trans k.2⟩) (fun W l o o' hl ho hc hw => ⟨belowK_b (w := W0) (by omega) W l o o' hl ho hc hw, KeepsT.of_grown (grownBy_putObj' W l o') (fun j o2 e h2 => by cases e; rw [ho] at h2; cases h2; cases o <;> simp_all [jG1, Obj.isCells, Obj.isWalk])⟩) (Below.refl _ _) (fun _ => rfl)
  (fun pre W => LJ W0 (B + 1 + 1) (fun (pre : List TE) => ((pre.length : Nat) : Int)) pre W)
  (fun c pre W => c = .ret /\ Mis (pis l) pre)
  (fun s X Y row hs hg hr => LJ.own s X Y row hs hg hr) (fun c s X Y row hs hg hr => hs)
  ⟨⟨rfl, rfl, rfl, Nat.le_refl _, fun _ _ _ => rfl⟩, HRNW.out⟩
  (fun x a' W => ∃ (z : CE) (Bx By nT : Nat), z.1 = jNS x.2.1 /\ z.2 = x.2.2 /\ By ≠ B + 1 + 1 /\ Bx ≠ B + 1 + 1 /\ r_ W Bx #[x.1.1, x.1.2] 24 /\ r_ W By (rQ z.1 (.slice z.2 z.1.t.args.length z.1.t.args.length)) 51 /\ yQE z.1.t /\ ArgsIn W nT (.slice z.2 z.1.t.args.length z.1.t.args.length) z.1.t.args /\ (x.1, x.2.1) ∈ er M /\
   a' = { tmps := (((a0.tmps.setIfInBounds 22 (adW x.1)).setIfInBounds 23 (ceV z)).setIfInBounds 6 (v_ Bx)).setIfInBounds 7 (v_ By), defers := [] })
  (fun x a' _ X Y row hs hg hr => by
   obtain ⟨z, Bx, By, nT, e1, e2, n2, n3, h1, h2, h3, h4, h5⟩ := hs;exact ⟨z, Bx, By, nT, e1, e2, n2, n3, jI8 h1 hg (fun r e => (hr r e).2), jI8 h2 hg (fun r e => (hr r e).2), h3, h4.kept (zNc hg (fun r e => (hr r e).2)), h5⟩)
  ?assign ?body ?done ?stop
 case stop =>
  rintro D c pre W hD ⟨i, hS⟩ ⟨rfl, hm⟩ hK;rw [<- HE.out] at hm;exact (mis_not hS hm).elim
 case done =>
  rintro D xs W hD hS hI hK;subst hA0;have hn : xs.length = l.length := by
   have h1 := congrArg List.length (zuD hS);rw [List.length_map, HE.out, zld] at h1;exact h1
  obtain ⟨hgr, hcn⟩ := hI;simp only [hn] at hcn;have hr3 := (hgr.block (B + 1) (by omega) (fun e => by have := i_ e; omega)).trans HR3W.out;have hr1 := (hgr.block B (by omega) (fun e => by have := i_ e; omega)).trans HR1W.out;have hcc : W.cell? ⟨rb, 0, none⟩ = some (.slice la l.length lc) := (d_ (a := ⟨rb, 0, none⟩) (hgr.block rb (by have := HXW.out.size; omega) (fun e => by have := i_ e; omega))).trans (HXW.out.cellsIn _ _ _ HC.out);obtain ⟨c3, f3⟩ := yvw hr3;obtain ⟨c1, _⟩ := yvw hr1;obtain ⟨cn, _⟩ := yvw hcn;have HK := h_ hK;have HGR := h_ hgr;have HC3 := h_ hr3
  have HFQ : Hid (∀ V, Wr (fun b => b = B + 1) W V -> c_ V (B + 1 + 1) 0 (.int .i64 l.length) /\ c_ V B 0 (v_ rb) /\ c_ V rb 0 (.slice la l.length lc)) := h_ fun V hV => by
   have hk : ∀ b o u, b ≠ B + 1 -> W.cell? ⟨b, o, none⟩ = some u -> V.cell? ⟨b, o, none⟩ = some u := fun b o u hb hu => (d_ (a := ⟨b, o, none⟩) (hV.block b (b_ _ _ hu) hb)).trans hu;exact ⟨hk _ _ _ (by omega) cn, hk _ _ _ (by omega) c1, hk _ _ _ (by omega) hcc⟩
  clear hgr hK hS hr3 hr1 hcn hn c3 f3 c1 cn hcc;go_wp2_with fail;obtain ⟨c3, f3⟩ := yvw (rowX (Xt.refl W).drew HC3.out);refine wp_region_held_drew (S := fun V => Wr (fun b => b = B + 1) W V) (by kernel_rfl) (Wr.of_xt (Xt.refl W).drew) (fun hHeld => ?_);refine tk HFQ.out 0 ?_;refine tk HFQ.out 1 ?_;refine tk HFQ.out 2 ?_;refine tk HFQ.out 3 ?_;refine tk HFQ.out 4 ?_;refine tk HFQ.out 5 ?_;refine tk HFQ.out 6 ?_;refine wpAnyH_ready (rs := [7]) (by kernel_rfl) (by simp) ?_;refine AllReadyH.cons (o := _) rfl (fun KK hKK => ?_) AllReadyH.nil;go_simp;refine hKK.out _ _ ((Wr.of_xt (Xt.refl W).drew).trans (Wr.cell _ rfl)) (fun hHe => ?_);clear hKK KK;refine z_ (by kernel_rfl) ?_ _
  go_wp2_with fail;obtain ⟨W', hW'⟩ := e_ ((W.setCell ⟨B + 1, 0, none⟩ (.bool true)).drew);have k1 : W'.cell? ⟨B + 1, 0, none⟩ = some (.bool true) := (by rw [<- hW']; exact k_ _ _ _ c3);have hKW : W'.heap[D]? = some (.deferred (some [])) := (by rw [<- hW']; exact (s_ _ _ _ _ (fun e => by simp at e; omega)).trans HK.out);have hxE : Xt w (W'.putObj D (.deferred none)) := by
   rw [<- hW'];exact (((HXW.out.grownB HGR.out (fun q hq => by cases hq; omega)).drew).grownB (yiv _ _ _ _) (fun q hq => by cases hq; omega)).grownB (grownBy_putObj' _ D _) (fun q hq => by cases hq; omega)
  have k8' : (W'.putObj D (.deferred none)).cell? ⟨B + 1, 0, none⟩ = some (.bool true) := (d_ (w := W') (a := ⟨B + 1, 0, none⟩) (World.putObj_heap_other (by show B + 1 ≠ D; omega))).trans k1;rw [hW'];refine ⟨by simp, .inl ⟨_, _, rfl, run_takeDeferred hKW, ?_⟩⟩;exact ⟨_, yK3 rfl _ _ (B + 1) (.bool true) rfl (jQf _ _ _ k8'), rfl, hxE⟩
 case assign =>
  rintro l0 pre x W K hI ⟨V, hIV, ⟨hxV, hsm, nT, hA⟩, hmem⟩ hK;subst hA0;obtain ⟨⟨c, d⟩, tc, tp⟩ := x;obtain ⟨z, hz1, hz2⟩ : ∃ z : CE, z.1 = jNS tc /\ z.2 = tp := ⟨(jNS tc, tp), rfl, rfl⟩;have hzv : ysf tc tp = ceV z := (by rw [<- jX1]; obtain ⟨z1, z2⟩ := z; simp only at hz1 hz2; rw [hz1, hz2]);have hzA : yQE z.1.t /\ ArgsIn W nT (.slice z.2 z.1.t.args.length z.1.t.args.length) z.1.t.args := by
   rw [hz1, hz2];refine ⟨jXA _ hsm, ?_⟩
   show ArgsIn _ _ (.slice tp (copyT tc.t).args.length (copyT tc.t).args.length) (copyT tc.t).args
   rw [copyT_len, zH4];exact hA.args
  have HZ := h_ (show z.1 = jNS tc /\ z.2 = tp from ⟨hz1, hz2⟩);have HZA := h_ hzA;have hR1 : B + 1 + 1 < W.heap.size := (g_ hI.cnt).1;simp only [teV, hzv];clear hz1 hz2 hzv hzA hA hsm hIV hxV;obtain ⟨wA, hwA, hbA, hsA, kA0, kA1⟩ := box1 W c d 24;obtain ⟨wZ, wR, hwZ, hwR, hrZ, hrR, hxR, hsR, hxZ, hsZ⟩ := boxR wA z;rw [hsA] at hrZ hwR hrR;have hrA : wA.heap[W.heap.size]? = some (.cells #[.int .i64 c, .int .i64 d] 24 (0, 0)) := (by rw [<- hwA]; exact World.alloc_heap_new W _);have hxWR := h_ (Xt.trans hbA hxR);have HRA := h_ ((hxR.block _ (by omega)).trans hrA);have HRZ := h_ hrZ;have HRR := h_ hrR;have HWR := h_ hwR
  clear hrZ hwR hrR hrA kA0 kA1 hbA hxZ hxR
  gi_wp2_with (first | (refine zm0 (P := Tryz.prog) rfl 51 _ _ rfl (W.heap.size + 1) #[.int .i64 z.1.kind, .int .i64 z.1.v.kind, .float .f64 z.1.v.x, .string z.1.v.s, .bool z.1.v.b, .int .i64 z.1.v.f, .int .i64 z.1.t.kind, .int .i64 z.1.t.op, .float .f64 z.1.t.x, .string z.1.t.s, .bool z.1.t.b, .int .i64 z.1.t.f, .int .i64 z.1.t.ref.a.1, .int .i64 z.1.t.ref.a.2, .bool z.1.t.ref.cf, .bool z.1.t.ref.rf, .int .i64 z.1.t.to.a.1, .int .i64 z.1.t.to.a.2, .bool z.1.t.to.cf, .bool z.1.t.to.rf, .slice z.2 z.1.t.args.length z.1.t.args.length] rfl rfl 51 _ HRZ.out (by kernel_rfl) rfl (by simp [Value.oneCell']) ?_; rw [HWR.out]))
  have hx := hxWR.out;refine hK _ _ (jWD hx _) ⟨hx.mono (by have := hI.grown.size; have := HXW.out.size; omega), KeepsT.of_xt hx⟩ ⟨ypE hI.grown hx.grownN (fun r e => by cases e), rowX hx hI.cnt⟩ ?_;refine ⟨z, W.heap.size, W.heap.size + 1, nT, HZ.out.1, HZ.out.2, by omega, by omega, HRA.out, HRR.out, HZA.out.1, HZA.out.2.xt hx, hmem, ?_⟩;simp only [List.setIfInBounds_toArray, List.set_cons_zero, List.set_cons_succ]
 case body =>
  rintro l0 pre x a' W hl0 ⟨r, hr⟩ hI ⟨z, Bx, By, nT, hz1, hz2, nBy, nBx, hBx, hBy, hzs, hzA, hmem, rfl⟩ hlt;subst hA0;obtain ⟨⟨c, d⟩, tc, tp⟩ := x;simp only at hz1 hz2 hBx;obtain ⟨hgr, hcn⟩ := hI;have HGR := h_ hgr;have HCN := h_ hcn;have hgs0 := hgr.size;have hr3 := (hgr.block (B + 1) (by omega) (fun e => by have := i_ e; omega)).trans HR3W.out;have hr1 := (hgr.block B (by omega) (fun e => by have := i_ e; omega)).trans HR1W.out;have hrbk : W.heap[rb]? = w.heap[rb]? := (hgr.block rb (by have := HXW.out.size; omega) (fun e => by have := i_ e; omega)).trans (HXW.out.block rb hrl)
  have HXg : Hid (Xt w W) := HXW.out.grownB hgr (fun q hq => by cases hq; omega);have hcc : W.cell? ⟨rb, 0, none⟩ = some (.slice la l.length lc) := HXg.out.cellsIn _ _ _ HC.out;have HR3B := h_ hr3;obtain ⟨c1, _⟩ := yvw hr1;obtain ⟨cn, _⟩ := yvw hcn;obtain ⟨x0, x1, _, _⟩ := zxi hBx;obtain ⟨n, hn⟩ := e_ pre.length;rw [hn] at cn;have HBY := h_ hBy;have HXD : Hid (Xt W W.drew) := (Xt.refl W).drew;obtain ⟨c3, f3⟩ := yvw (rowX HXD.out hr3);have hcz : jNS tc = tc := by
   have hm2 := hmem;rw [HE.out] at hm2;exact (HOK.out.each _ hm2).2.2.2.1
  have HZ1 : Hid (z.1 = tc) := h_ (hz1.trans hcz);have htok : tc.ok := by
   have hm2 := hmem;rw [HE.out] at hm2;exact (HOK.out.each _ hm2).2.2.2.2
  have HTO := h_ htok;have HZA := h_ hzA;have HN := h_ hn;by_cases hA : (l.length : Int) <= (n : Int)
  . have HF : Hid (∀ V, Xt W V -> c_ V (B + 1 + 1) 0 (.int .i64 n) /\ c_ V B 0 (v_ rb) /\ c_ V rb 0 (.slice la l.length lc)) := h_ fun V hV => ⟨hV.cellsIn _ _ _ cn, hV.cellsIn _ _ _ c1, hV.cellsIn _ _ _ hcc⟩;have HMS : Hid ((pis l)[pre.length]? ≠ some (tpT ((c, d), tc, tp))) := h_ (by rw [hn, List.getElem?_eq_none (by rw [zld]; omega)]; simp);clear hr hgr hcn hBx hBy hz1 hz2 hzs hzA hmem hlt hr3 hr1 hrbk hcc c1 cn x0 x1 hcz htok hn;simp only [List.setIfInBounds_toArray, List.set_cons_zero, List.set_cons_succ]
    gi_wp2_with fail
    refine zM3 (S := fun V => Xt W V) (by kernel_rfl) (by kernel_rfl) (fun _ _ h => h) HXD.out (fun hHeld => ?_);refine tk HF.out 0 ?_;refine tk HF.out 1 ?_;refine tk HF.out 2 ?_;refine tk HF.out 3 ?_;refine tk HF.out 4 ?_;refine tk HF.out 5 ?_;refine tkH 6 (.bool true) ?_ ?_
    . intro V hSw; go_simp; first | done | omega | (simp; omega)
    try simp only [Act.put, nm]
    refine tk HF.out 7 ?_;refine sk 8 ?_;refine sk 9 ?_;refine sk 10 ?_;refine sk 11 ?_;refine sk 12 ?_;refine sk 13 ?_;refine sk 14 ?_;refine sk 15 ?_;refine sk 16 ?_;refine sk 17 ?_;refine tk HF.out 18 ?_;refine tk HF.out 19 ?_;refine sk 20 ?_;refine sk 21 ?_;refine sk 22 ?_;refine sk 23 ?_;refine sk 24 ?_;refine sk 25 ?_;refine sk 26 ?_;refine sk 27 ?_;refine sk 28 ?_;refine sk 29 ?_;refine sk 30 ?_;refine tk HF.out 31 ?_;refine z_ (by kernel_rfl) ?_ _
    gi_wp2_with fail
    have hgs : W.grownBy (World.setCell W.drew ⟨B + 1, 0, none⟩ (.bool false)) (some (B + 1)) := z8o ((HXD.out).grown (some (B + 1))) (yiv _ _ _ _);exact ⟨KeepsFrom.of_grownBy hgs (fun j e => by cases e; omega), rfl, pre, ((c, d), tc, tp), rfl, HMS.out⟩
  . have hA2 : (n : Int) < (l.length : Int) := (by omega);obtain ⟨y, hy⟩ : ∃ y, l[n]? = some y := ⟨l[n]'(by omega), j_ (by omega)⟩;obtain ⟨b, off, rfl, k0, k1, k2, hok, n0, hin⟩ := HP.out.at hy;have hpn : (pis l)[n]? = some (y.a, y.c) := by unfold pis; rw [List.getElem?_map, hy]; rfl
    have HF : Hid (∀ V, Xt W V -> c_ V (B + 1 + 1) 0 (.int .i64 n) /\ c_ V B 0 (v_ rb) /\ c_ V rb 0 (.slice (some ⟨b, off, none⟩) l.length lc) /\ c_ V Bx 0 (.int .i64 c) /\ c_ V Bx 1 (.int .i64 d) /\ c_ V b (off + n * 23) y.a.1 /\ c_ V b (off + n * 23 + 1) y.a.2) := h_ fun V hV => ⟨hV.cellsIn _ _ _ cn, hV.cellsIn _ _ _ c1, hV.cellsIn _ _ _ hcc, hV.cellsIn _ _ _ x0, hV.cellsIn _ _ _ x1, (HXg.out.trans hV).cellsIn _ _ _ k0, (HXg.out.trans hV).cellsIn _ _ _ k1⟩
    have HFR : Hid (∀ V, Xt W V -> V.rangeAt b (off + n * 23 + 2) ((inC1 y).drop 2)) := h_ fun V hV j u hu => (HXg.out.trans hV).cellsIn _ _ _ (k2 j u hu);obtain ⟨kb, hkb⟩ := e_ (decide (y.a.1 = c /\ y.a.2 = d));have HKB := h_ hkb;have HPN := h_ hpn;have HIN := h_ hin;have HYO := h_ hok;have HCN2 := h_ cn;have hWl : B + 1 + 1 < l0 := (by omega);have hnb : n < 4096 := (by omega);clear hr hgr hBx hBy hz1 hz2 hzs hzA hmem hlt hr3 hr1 hrbk hcc c1 cn hcn x0 x1 hcz htok hn hy k0 k1 k2 hok hin hpn hkb;simp only [List.setIfInBounds_toArray, List.set_cons_zero, List.set_cons_succ]
    gi_wp2_with fail
    refine zM3 (S := fun V => Xt W V) (by kernel_rfl) (by kernel_rfl) (fun _ _ h => h) HXD.out (fun hHeld => ?_);refine tk HF.out 0 ?_;refine tk HF.out 1 ?_;refine tk HF.out 2 ?_;refine tk HF.out 3 ?_;refine tk HF.out 4 ?_;refine tk HF.out 5 ?_;refine tkH 6 (.bool false) ?_ ?_
    . intro V hSw; go_simp; first | done | omega | (simp; omega)
    try simp only [Act.put, nm]
    refine tk HF.out 7 ?_;refine tk HF.out 8 ?_;refine tk HF.out 9 ?_;refine tk HF.out 10 ?_;refine tk HF.out 11 ?_;refine tk HF.out 12 ?_;refine tk HF.out 13 ?_;refine tk HF.out 14 ?_;refine tk HF.out 15 ?_;refine tk HF.out 16 ?_;refine tkH 17 (.bool (!kb)) ?_ ?_
    . intro V hSw; obtain ⟨u0, u1, u2, u3, u4, u5, u6⟩ := HF.out V hSw; rw [<- HKB.out]; go_simp; (by_cases h1 : y.a.1 = c <;> by_cases h2 : y.a.2 = d <;> simp [h1, h2])
    try simp only [Act.put, nm]
    cases kb
    . have HMS : Hid ((pis l)[pre.length]? ≠ some (tpT ((c, d), tc, tp))) := h_ (by
       rw [HN.out, HPN.out];intro e;have e1 := congrArg Prod.fst (i_ e);have h2 := HKB.out;simp only [decide_eq_false_iff_not] at h2;exact h2 ⟨congrArg Prod.fst e1, congrArg Prod.snd e1⟩)
      refine tk HF.out 18 ?_;refine tk HF.out 19 ?_;refine sk 20 ?_;refine sk 21 ?_;refine sk 22 ?_;refine sk 23 ?_;refine sk 24 ?_;refine sk 25 ?_;refine sk 26 ?_;refine sk 27 ?_;refine sk 28 ?_;refine sk 29 ?_;refine sk 30 ?_;refine tk HF.out 31 ?_;refine z_ (by kernel_rfl) ?_ _
      gi_wp2_with fail
      have hgs : W.grownBy (World.setCell W.drew ⟨B + 1, 0, none⟩ (.bool false)) (some (B + 1)) := z8o ((HXD.out).grown (some (B + 1))) (yiv _ _ _ _);exact ⟨KeepsFrom.of_grownBy hgs (fun j e => by cases e; omega), rfl, pre, ((c, d), tc, tp), rfl, HMS.out⟩
    . have hke : y.a = (c, d) := (by have h2 := HKB.out; simp only [decide_eq_true_eq] at h2; exact Prod.ext h2.1 h2.2);have HKE := h_ hke;obtain ⟨sb, hsb⟩ := e_ (z0G z.1 y.c);have HSB := h_ hsb;have HSM := h_ (zqy (nT + n0) z.1 y.c z.2 y.p z.1.t.args.length y.cap W.drew (by rw [HZ1.out]; exact HTO.out) HYO.out (ArgsIn.upQ (Nat.le_add_right _ _) (HZA.out.xt HXD.out)) (ArgsIn.upQ (Nat.le_add_left _ _) (HIN.out.xt (HXg.out.trans HXD.out))));rw [hsb] at HSM;clear hke hsb;refine tk HF.out 18 ?_;refine tk HF.out 19 ?_
      refine tkH 20 (.agg (rQ z.1 (.slice z.2 z.1.t.args.length z.1.t.args.length))) ?_ ?_
      . intro V hSw; exact jad 51 _ (by rfl) By (by rfl) 51 _ (0, 0) _ (rowX hSw HBY.out) Tryz.underlying51 rfl (by kernel_rfl)
      try simp only [Act.put, nm]
      refine tk HF.out 21 ?_;refine tk HF.out 22 ?_;refine tk HF.out 23 ?_;refine tk HF.out 24 ?_;refine tk HF.out 25 ?_;refine tk HF.out 26 ?_;refine tk HF.out 27 ?_;refine tkH 28 (.agg ((inC1 y).drop 2).toArray) ?_ ?_
      . intro V hSw; exact ySb 51 _ (by rfl) b (off + n * 23 + 2) (by rfl) ((inC1 y).drop 2) _ (HFR.out V hSw) Tryz.underlying51 rfl (by kernel_rfl)
      try simp only [Act.put, nm]
      refine rdH 29 (fun K hK => ?_);go_simp;refine (HSM.out).mono ?_;rintro e w7 ⟨rfl, hg7⟩;have HX7 := h_ (HXD.out.trans hg7.xt);refine ko hK HX7.out fun hHe => ?_;clear hK K hg7;refine tk HF.out 30 ?_;refine tk HF.out 31 ?_;refine z_ (by kernel_rfl) ?_ _;obtain ⟨c3, f3⟩ := yvw (rowX HX7.out HR3B.out);cases sb
      . have HMS : Hid ((pis l)[pre.length]? ≠ some (tpT ((c, d), tc, tp))) := h_ (by
         rw [HN.out, HPN.out];intro e;have e1 : y.c = tc := congrArg Prod.snd (i_ e);have h2 := HSB.out;rw [HZ1.out, e1, ymr] at h2;cases h2)
        gi_wp2_with fail
        have hgs : W.grownBy (World.setCell w7 ⟨B + 1, 0, none⟩ (.bool false)) (some (B + 1)) := z8o ((HX7.out).grown (some (B + 1))) (yiv _ _ _ _);exact ⟨KeepsFrom.of_grownBy hgs (fun j e => by cases e; omega), rfl, pre, ((c, d), tc, tp), rfl, HMS.out⟩
      . obtain ⟨cn, fn⟩ := yvw (rowX HX7.out HCN.out);rw [HN.out] at cn;have hadd : IntKind.i64.wrap ((n : Int) + 1) = (n : Int) + 1 := by rw [IntKind.wrap_i64]; omega
        gi_wp2_with fail
        have hgW : Wr (fun b => b = B + 1 + 1) W (w7.setCell ⟨B + 1 + 1, 0, none⟩ (.int .i64 ((n : Int) + 1))) := (Wr.of_xt HX7.out).trans (Wr.cell _ rfl);obtain ⟨re1, re2, re3⟩ := zmr (l0 := W0.heap.size) (n0 := w.heap.size) (f := fun (pre : List TE) => ((pre.length : Nat) : Int)) (pre' := pre ++ [((c, d), tc, tp)]) HGR.out HCN.out (rowX HX7.out HCN.out) (by show (((pre ++ [((c, d), tc, tp)]).length : Nat) : Int) = (n : Int) + 1; rw [List.length_append, HN.out]; simp) hgW (by omega) (by omega);exact ⟨re1, re2, re3⟩
def jdG (f : ArT) (P : PG) (x : Ad × ContT) : PG := if hasB f x.1 = true then P else putP P x.1 x.2
def y2Z (f : ArT) (l : PG) : PG := l.foldl (jdG f) []
theorem y9F (f : ArT) (l : PG) (x : Ad × ContT) : y2Z f (l ++ [x]) = jdG f (y2Z f l) x := by simp [y2Z]
theorem zer {l : List PI} {i : Nat} {x : PI} (hx : l[i]? = some x) : pis (l.take (i + 1)) = pis (l.take i) ++ [(x.a, x.c)] := by
 unfold pis;rw [List.take_add_one, hx];simp
theorem zg5 {f : ArT} {l : List PI} {i : Nat} {x : PI} (hx : l[i]? = some x) : y2Z f (pis (l.take (i + 1))) = jdG f (y2Z f (pis (l.take i))) (x.a, x.c) := by
 rw [zer hx, y9F]
theorem yaj {f : ArT} (hf : ygU f.a f.b f.c f.d = true) {g : PG} (h : GOk g) : y2Z f g = zRj f g := by
 have key : ∀ l : PG, (∀ r, l ++ r = g -> y2Z f l = zRj f l) := by
  refine yqn ?_ ?_
  . intro r _; rfl
  . intro l x ih r hr;have hl := ih (x :: r) (by rw [<- hr]; simp);rw [y9F, hl];unfold jdG zRj;rw [List.filter_append, jlE hf];have hm : x ∈ g := (by rw [<- hr]; simp);obtain ⟨v1, v2, v3, v4, v5⟩ := h.each x hm;cases hi : inA f x.1
    . simp only [Bool.false_eq_true, if_false, List.filter_cons, hi, Bool.not_false, if_true, List.filter_nil];have hlast : ∀ y ∈ l.filter (fun x => !inA f x.1), adLt y.1 x.1 = true := fun y hy => by
       have hs := h.sorted;rw [<- hr, yJ0, List.append_assoc, List.pairwise_append] at hs;exact hs.2.2 y (List.mem_filter.1 hy).1 x (by simp)
      have hlen : (l.filter (fun x => !inA f x.1)).length < 4096 := by
       have h1 := List.length_filter_le (fun x => !inA f x.1) l;have h2 := h.many;rw [<- hr] at h2;simp at h2;omega
      have hno : lkM x.1 (l.filter (fun x => !inA f x.1)) = none := lkM_none.2 fun y hy e => by have := hlast y hy; rw [e, jZs] at this; cases this
      unfold putP;rw [v1, v2, v3];simp only [Bool.true_eq_false, Bool.false_eq_true, if_false];have hfu : jAG (l.filter (fun x => !inA f x.1)) x.1 = false := (by unfold jAG; rw [hno]; simp; omega);rw [hfu, v4, yXx hlast];simp
    . simp [hi]
 exact key g [] (by simp)
def DocIs (w : World) (o : PG) (ob : Nat) (w' : World) : Prop := ∃ l', DG w' ob l' /\ pis l' = o /\ w.heap.size <= ob /\ Xt w w'
theorem DG.fresh {w w' : World} (h : w.alloc (.cells #[.slice none 0 0] 109) = w') : DG w' w.heap.size [] := by
 subst h;refine ⟨⟨.slice none 0 0, (a_ w _).1, ⟨⟨none, 0, rfl, by simp, by omega, fun h => absurd rfl h⟩, fun x hx => by cases hx⟩⟩, List.Pairwise.nil, by simp, fun x hx => by cases hx⟩
theorem zlk (f : ArT) (rb : Nat) (l : List PI) (w : World) (h : DG w rb l) :
    Calls Tryz.prog 91 #[v_ rb, arT f] w fun e w' => ∃ ob, e = .returned (v_ ob) /\ DocIs w (y2Z f (pis l)) ob w' := by
 obtain ⟨v, hc, hP⟩ := h.cell;obtain ⟨la, lc, rfl, hlc, hlc2⟩ := hP.shape;have hm := h.many;have H := h_ h;obtain ⟨B, hB⟩ := e_ w.heap.size;obtain ⟨w0, hw0⟩ := e_ (w.alloc (.cells #[f.a, f.b, f.c, f.d] 26));have HX0 : Hid (Xt w w0) := (by unfold Hid; rw [<- hw0]; exact (Xt.refl _).alloc _);have hs0 : w0.heap.size = B + 1 := (by rw [<- hw0, <- hB]; simp);have HR0 : Hid (r_ w0 B #[f.a, f.b, f.c, f.d] 26) := (by unfold Hid; rw [<- hw0, <- hB]; exact (a_ w _).1);obtain ⟨w1, hw1⟩ := e_ (w0.alloc (.cells #[.slice none 0 0] 109))
 have HX1 : Hid (Xt w0 w1) := (by unfold Hid; rw [<- hw1]; exact (Xt.refl _).alloc _);have HD1 := h_ (DG.fresh hw1);rw [hs0] at HD1;have HP := h_ (hP.xt HX0.out);have HC := h_ (HX0.out.cellsIn _ _ _ hc);have HFC : Hid (∀ V, Xt w0 V -> V.cell? ⟨rb, 0, none⟩ = some (.slice la l.length lc)) := h_ fun V hV => hV.cellsIn _ _ _ HC.out;clear h hc hP;go_enter Tryz.func91, Tryz.ntmps91;go_wp2_with fail
 go_loopw [6] (fun s6 wr => ∃ (i : Nat) (l1 : List PI), i <= l.length /\ s6 = .int .i64 i /\ Hid (DG wr (B + 1) l1) /\ Hid (pis l1 = y2Z f (pis (l.take i))) /\ Hid (Xt w0 wr)) (fun s6 _ => l.length - (intOf s6).toNat)
 case atStart => exact ⟨0, [], Nat.zero_le _, rfl, HD1, by unfold Hid; rfl, HX1⟩
 case round =>
  obtain ⟨i, l1, hi, rfl, HD, HL, HX⟩ := hrel;have kc := HFC.out wr HX.out;by_cases hlt : i < l.length
  . have hki : (i : Int) < (l.length : Int) := (by omega);obtain ⟨x, hx⟩ : ∃ x, l[i]? = some x := ⟨l[i], j_ hlt⟩;obtain ⟨b, off, rfl, q0, q1, q2, hok, n, hin⟩ := HP.out.at hx;have HXI := h_ hx;have HOK := h_ hok;have HIN := h_ hin;have HSM := h_ (H.out.small x (m_ hx));obtain ⟨vb, hvb⟩ := e_ (hasB f x.a);have HVB := h_ hvb;have HHAS := h_ (fun V => jOD f x.a V);rw [hvb] at HHAS
    have HF : Hid (∀ V, Xt w0 V -> c_ V rb 0 (.slice (some ⟨b, off, none⟩) l.length lc) /\ c_ V b (off + i * 23) x.a.1 /\ c_ V b (off + i * 23 + 1) x.a.2 /\ c_ V B 0 f.a /\ c_ V B 1 f.b /\ c_ V B 2 f.c /\ c_ V B 3 f.d) := h_ fun V hV => by
     have hc := hV.cellsIn;obtain ⟨⟨u0, u1, u2, u3⟩, _⟩ := jr0 (rowX hV HR0.out);exact ⟨hc _ _ _ HC.out, hc _ _ _ q0, hc _ _ _ q1, u0, u1, u2, u3⟩
    have HFR : Hid (∀ V, Xt w0 V -> V.rangeAt b (off + i * 23 + 2) ((inC1 x).drop 2)) := h_ fun V hV j u hu => hV.cellsIn _ _ _ (q2 j u hu);clear hx q0 q1 q2 hok hin hvb HFC;go_wp2_with fail;have HXD : Hid (Xt w0 wr.drew) := HX.out.drew;refine wp_region_held_drew (S := fun V => Xt w0 V) (by kernel_rfl) HXD.out (fun hHeld => ?_);refine tk HF.out 0 ?_;refine tk HF.out 1 ?_;refine tk HF.out 2 ?_;refine tk HF.out 3 ?_;refine tk HF.out 4 ?_;refine tk HF.out 5 ?_;refine tk HF.out 6 ?_;refine tk HF.out 7 ?_;refine tk HF.out 8 ?_;refine rdH 9 (fun K hK => ?_);go_simp;refine (HHAS.out _).mono ?_;rintro e w2 ⟨rfl, hg2⟩;have HX2 := h_ (HXD.out.trans hg2)
    have HXR := h_ ((Xt.refl wr).drew.trans hg2);refine ko hK HX2.out fun hHe => ?_;clear hK K hg2;refine tk HF.out 10 ?_;refine z_ (by kernel_rfl) ?_ _;cases vb
    . go_wp2_with fail;have HXD2 : Hid (Xt w0 w2.drew) := HX2.out.drew;have HD2 := h_ (HD.out.xt (HXR.out.drew));have HPU := h_ (ze5 n (B + 1) l1 x.a x.c x.p x.cap w2.drew HD2.out HOK.out HSM.out (HIN.out.xt HXD2.out));refine wp_region_held_drew (S := fun V => Xt w0 V) (by kernel_rfl) HXD2.out (fun hHeld => ?_);refine tk HF.out 0 ?_;refine tk HF.out 1 ?_;refine tk HF.out 2 ?_;refine tk HF.out 3 ?_;refine tk HF.out 4 ?_;refine tk HF.out 5 ?_;refine tk HF.out 6 ?_;refine tk HF.out 7 ?_;refine tk HF.out 8 ?_;refine tk HF.out 9 ?_;refine tk HF.out 10 ?_;refine tk HF.out 11 ?_;refine tk HF.out 12 ?_;refine tk HF.out 13 ?_;refine tk HF.out 14 ?_;refine tk HF.out 15 ?_
      refine tkH 16 (.agg ((inC1 x).drop 2).toArray) ?_ ?_
      . intro V hSw; exact ySb 51 _ (by rfl) b (off + i * 23 + 2) (by rfl) ((inC1 x).drop 2) _ (HFR.out V hSw) Tryz.underlying51 rfl (by kernel_rfl)
      try simp only [Act.put, nm]
      refine rdH 17 (fun K hK => ?_);go_simp;refine (HPU.out).mono ?_;rintro e w5 ⟨l5, rfl, hD5, hp5, hg5⟩;have HX5 := h_ (HXD2.out.grownB hg5 (fun m hm => by cases hm; omega));have HD5 := h_ hD5;have HP5 := h_ hp5;refine ko hK HX5.out fun hHe => ?_;clear hK K hD5 hp5 hg5;refine z_ (by kernel_rfl) ?_ _;go_wp2_with fail;go_roundw
      case rel => exact ⟨i + 1, l5, by omega, by go_num, HD5, by unfold Hid; rw [HP5.out, HL.out, zg5 HXI.out, jdG, HVB.out]; simp, HX5⟩
      case measure => simp [intOf]; omega
    . go_wp2_with fail;go_roundw
      case rel => exact ⟨i + 1, l1, by omega, by go_num, HD.out.xt HXR.out, by unfold Hid; rw [HL.out, zg5 HXI.out, jdG, HVB.out]; simp, HX2⟩
      case measure => simp [intOf]; omega
  . have hki : ¬ (i : Int) < (l.length : Int) := (by omega);obtain rfl : i = l.length := by omega
    go_wp2_with fail;go_ret;refine ⟨B + 1, rfl, l1, HD.out, ?_, by omega, HX0.out.trans HX.out⟩;rw [HL.out, List.take_length]
end
section
open Go.RowKit Go.Sort
theorem zFL {f : ArT} {t : Ad} (hv : ygU f.a f.b f.c f.d = true) (h : (y8L t.1 t.2 && y8L (zyU f t).1 (zyU f t).2) = true) : ∀ a, inA f a = true -> y8L (movG (z4o f t) (jLL f t) a).1 (movG (z4o f t) (jLL f t) a).2 = true := by
 intro a ha;simp only [Bool.and_eq_true] at h;have h1 := yO7 h.1;have h2 := yO7 h.2;have h3 := (yL5 ha);unfold zyU at h2;unfold z4o jLL movG;have hva := zJx (x := f) (by unfold vA; unfold ygU at hv; exact hv);simp only at h2 h3 hva ⊢;have e1 : wrap64 (t.1 - f.a) = t.1 - f.a := w64 (by omega) (by omega);have e2 : wrap64 (t.2 - f.b) = t.2 - f.b := w64 (by omega) (by omega);have e3 : wrap64 (t.1 + f.c) = t.1 + f.c := w64 (by omega) (by omega);have e4 : wrap64 (t.2 + f.d) = t.2 + f.d := w64 (by omega) (by omega);rw [e3, e4] at h2;have e5 : wrap64 (t.1 + f.c - f.a) = t.1 + f.c - f.a := w64 (by omega) (by omega)
 have e6 : wrap64 (t.2 + f.d - f.b) = t.2 + f.d - f.b := w64 (by omega) (by omega);rw [e5, e6] at h2;have h3' := h3.2;have e7 : wrap64 (a.1 + wrap64 (t.1 - f.a)) = a.1 + (t.1 - f.a) := (by rw [e1]; exact w64 (by omega) (by omega));have e8 : wrap64 (a.2 + wrap64 (t.2 - f.b)) = a.2 + (t.2 - f.b) := (by rw [e2]; exact w64 (by omega) (by omega));rw [e7, e8];exact jwW (by omega)
theorem far_mov (f : ArT) (t a : Ad) : wrap64 (wrap64 (a.1 - f.a) + t.1) = (movG (z4o f t) (jLL f t) a).1 /\ wrap64 (wrap64 (a.2 - f.b) + t.2) = (movG (z4o f t) (jLL f t) a).2 := by
 unfold movG z4o jLL wrap64;simp only;constructor <;> omega
theorem mov_far (f : ArT) (t a : Ad) : wrap64 ((movG (z4o f t) (jLL f t) a).1 - a.1) = z4o f t /\ wrap64 ((movG (z4o f t) (jLL f t) a).2 - a.2) = jLL f t := by
 unfold movG z4o jLL wrap64;simp only;constructor <;> omega
theorem j8R {f : ArT} {l : List PI} {i : Nat} {x : PI} (hx : l[i]? = some x) : inP f (pis (l.take (i + 1))) = inP f (pis (l.take i)) ++ (if inA f x.a = true then [(x.a, x.c)] else []) := by
 rw [zer hx];unfold inP;rw [List.filter_append, List.filter_cons];cases inA f x.a <;> rfl
theorem zF8 {f : ArT} {l : List PI} (i : Nat) : inP f (pis l) = inP f (pis (l.take i)) ++ inP f (pis (l.drop i)) := by
 unfold inP;rw [<- List.filter_append];unfold pis;rw [<- List.map_append, List.take_append_drop]
theorem zQ4 {f : ArT} {t : Ad} (h : (y8L t.1 t.2 && y8L (zyU f t).1 (zyU f t).2) = true) (hv : ygU f.a f.b f.c f.d = true) : ygU (zJt f t).a (zJt f t).b (zJt f t).c (zJt f t).d = true := by
 simp only [Bool.and_eq_true] at h;have h1 := yO7 h.1;have h2 := yO7 h.2;have hva := zJx (x := f) (by unfold vA; unfold ygU at hv; exact hv);unfold zJt;simp only;unfold ygU;rw [h.1, h.2];unfold zyU at h2 ⊢;simp only at h2 ⊢;have e3 : wrap64 (t.1 + f.c) = t.1 + f.c := w64 (by omega) (by omega);have e4 : wrap64 (t.2 + f.d) = t.2 + f.d := w64 (by omega) (by omega);rw [e3, e4] at h2 ⊢;have e5 : wrap64 (t.1 + f.c - f.a) = t.1 + f.c - f.a := w64 (by omega) (by omega);have e6 : wrap64 (t.2 + f.d - f.b) = t.2 + f.d - f.b := w64 (by omega) (by omega);rw [e5, e6];simp; omega
end
section
open Go.RowKit Go.Sort Go.Maps Go.Shelf Go.MapKept
attribute [local go_sem] Oper.semAt_some
def DocR (o : Ans) (w : World) (e : Ending) (w' : World) : Prop :=
 Xt w w' /\ ((e = .returned (.tuple #[.pointer none, .int .i64 o.2]) /\ o.1 = none) \/ ∃ ob l, e = .returned (.tuple #[v_ ob, .int .i64 0]) /\ DG w' ob l /\ o.1 = some (pis l) /\ w.heap.size <= ob)
theorem zXi (cols : Bool) (a n : Int) (rb : Nat) (w : World) (hm : (jls (yaC cols) a n).2 = false) :
    Calls Tryz.prog 56 #[v_ rb, .bool cols, .int .i64 a, .int .i64 n] w fun e w' => e = .returned (.tuple #[.pointer none, .int .i64 1]) /\ Xt w w' := by
 have HM := h_ (fun V => yRB cols a n V);have e : zuS cols = yaC cols := rfl;rw [e, hm] at HM;clear hm e;go_enter Tryz.func56, Tryz.ntmps56;go_wp2_with (first
  | (go_at_call 86; refine (HM.out _).mono ?_; rintro e w2 ⟨rfl, rfl⟩))
 go_ret2
 exact ⟨rfl, Xt.refl _⟩
theorem zGu (cols : Bool) (a n : Int) (w : World) :
    Calls Tryz.prog 56 #[.pointer none, .bool cols, .int .i64 a, .int .i64 n] w fun e w' => e = .returned (.tuple #[.pointer none, .int .i64 1]) /\ Xt w w' := by
 have HM := h_ (fun V => yRB cols a n V);obtain ⟨b, hb⟩ := e_ ((jls (zuS cols) a n).2);rw [hb] at HM;clear hb;go_enter Tryz.func56, Tryz.ntmps56;go_wp2_with (first
  | (go_at_call 86; refine (HM.out _).mono ?_; rintro e w2 ⟨rfl, rfl⟩))
 go_ret2
 exact ⟨rfl, Xt.refl _⟩
theorem ypp (a n : Int) (rb : Nat) (l : List PI) (w : World) (h : DG w rb l) (hO : GOk (pis l)) (hm : (jls (yaC false) a n).2 = true) :
    Calls Tryz.prog 56 #[v_ rb, .bool false, .int .i64 a, .int .i64 n] w (DocR (jWQ false a n (pis l)) w) := by
 obtain ⟨vv, hc, hP⟩ := h.cell;obtain ⟨la, lc, rfl, hlc, hlc2⟩ := hP.shape;have hml := h.many;have H := h_ h;have HO := h_ hO;have HM := h_ (fun V => yRB false a n V);obtain ⟨m, hmv⟩ : ∃ m : Nat, m = 4096 := ⟨_, rfl⟩;have hmI : zuS false = (m : Int) := (by rw [hmv]; rfl);have hmL : yaC false = (m : Int) := (by rw [hmv]; rfl);unfold jWQ;rw [hmL] at hm ⊢;rw [hmI, hm] at HM;rw [hm];simp only [Bool.true_eq_false, if_false];have hMM := hm;unfold jls at hMM;simp only [Bool.and_eq_true, decide_eq_true_eq] at hMM;obtain ⟨⟨⟨m1, m2⟩, m3⟩, m4⟩ := hMM;have HPL := h_ (fun V => j6e m a n V (by omega) ⟨m1, m2⟩ ⟨m3, m4⟩)
 have HBD : Hid (m <= 4096 /\ (1 <= a /\ a <= m) /\ (-(m : Int) <= n /\ n <= m)) := ⟨by omega, ⟨m1, m2⟩, ⟨m3, m4⟩⟩;have HMI : Hid ((m : Int) = zuS false) := hmI.symm;have HMV := h_ hmv;obtain ⟨cG, hcG⟩ := e_ (z7H false ⟨a, n, m⟩);obtain ⟨aG, haG⟩ := e_ (zi9 false ⟨a, n, m⟩);have HCG := h_ hcG;have HAG := h_ haG;rw [hcG, haG];obtain ⟨ans, hans⟩ := e_ (if zcM cG n (pis l) = true then ((none, 20) : Ans) else (some (yan cG aG (pis l)), 0));rw [hans];have HANS := h_ hans;have HP := h_ hP;have HC := h_ hc;clear hans h hc hP hO hm hmI hmL m1 m2 m3 m4 hmv hcG haG;go_enter Tryz.func56, Tryz.ntmps56
 go_upto_region 6 with (first
  | (go_at_call 86; refine (HM.out _).mono ?_; rintro e w2 ⟨rfl, rfl⟩)
  | (go_at_call 87; refine (HPL.out _).mono ?_; rintro e w1 ⟨g, rfl, hrow, hgl, hx1⟩; have HROW := h_ hrow; have HX1 := h_ hx1; clear hrow hx1))
 obtain ⟨OB, hOB⟩ := e_ w1.heap.size;obtain ⟨w2, hw2⟩ := e_ (w1.alloc (.cells #[.slice none 0 0] 109));simp only [hw2, hOB];have HX2 : Hid (Xt w1 w2) := (by unfold Hid; rw [<- hw2]; exact (Xt.refl _).alloc _);have HD2 := h_ (DG.fresh hw2);rw [hOB] at HD2;have hOBw : w.heap.size <= OB := (by have := HX1.out.size; omega);have HOB := h_ hOB;clear hw2 hOB;go_wp2_with fail
 go_loopw [14] (fun s14 wr => ∃ (i : Nat) (l1 : List PI), i <= l.length /\ s14 = .int .i64 i /\ Hid (DG wr OB l1) /\ Hid (pis l1 = yan cG aG (pis (l.take i))) /\ Hid (zcM cG n (pis (l.take i)) = false) /\ Hid (Xt w1 wr)) (fun s14 _ => l.length - (intOf s14).toNat)
 case atStart => exact ⟨0, [], Nat.zero_le _, rfl, HD2, by unfold Hid; rfl, by unfold Hid; rfl, HX2⟩
 case round =>
  obtain ⟨i, l1, hi, rfl, HD, HL, HST, HX⟩ := hrel;have HXW := h_ (HX1.out.trans HX.out);have kc := HXW.out.cellsIn _ _ _ HC.out;by_cases hlt : i < l.length
  . have hki : (i : Int) < (l.length : Int) := (by omega);obtain ⟨x, hx⟩ : ∃ x, l[i]? = some x := ⟨l[i], j_ hlt⟩;obtain ⟨b, off, rfl, hrng⟩ := HP.out.row hx;obtain ⟨b', off', e', _, _, _, hok, n0, hin⟩ := HP.out.at hx;clear e';have HXI := h_ hx;have HRNG := h_ (jdA HXW.out hrng);have HOK := h_ hok;have HIN := h_ hin;have hmem := m_ hx;have HSM := h_ (H.out.small x hmem);have hpm : (x.a, x.c) ∈ pis l := List.mem_map.2 ⟨x, hmem, rfl⟩;obtain ⟨v1, v2, v3, v4, _⟩ := HO.out.each _ hpm;have hv := yZ6 v1;have HGV := h_ v2;have HCC := h_ v4;have hmM := HMV.out
    obtain ⟨wZ, wR, hwZ, hwR, hz, hB, hxR, hsR⟩ := boxP wr x.a x.c (.slice x.p x.c.t.args.length x.cap);obtain ⟨X, hX⟩ := e_ wr.heap.size;rw [hX] at hwR hz hB;obtain ⟨l1', l2'⟩ := j5u HBD.out.1 HBD.out.2.1 HBD.out.2.2 (k := x.a.2) ⟨by simp only at hv; omega, by simp only at hv; omega⟩;have hrow1 := HROW.out.of_heap (HX.out.block g (by obtain ⟨cur, hc, _⟩ := HROW.out; exact (g_ hc).1));have hrow2 := hrow1.of_heap (hxR.block g (by obtain ⟨cur, hc, _⟩ := hrow1; exact (g_ hc).1));obtain ⟨j, hj, hjm, hcj⟩ := jIK hrow2 (k := x.a.2) (by simp only at hv; omega) (by simp only at hv; omega);have HRW2 := h_ hrow2
    obtain ⟨v, hvv⟩ := e_ (yMh m a n x.a.2);rw [hvv] at l1' l2' hcj;have hv0 : 0 <= v := (by rw [<- hvv]; unfold yMh; simp only at hv; have := HBD.out; (repeat' split) <;> omega);have hcx : cG x.a = ((x.a.1, (jLa ⟨a, n, m⟩ x.a.2).1), (jLa ⟨a, n, m⟩ x.a.2).2) := (by rw [<- HCG.out]; unfold z7H; simp);have hc2 : (cG x.a).2 = decide (0 < v) := (by rw [hcx]; exact l1');have hc1 : 0 < v -> (cG x.a).1 = (x.a.1, v) := fun h => by rw [hcx]; simp only; rw [l2' (by rw [l1']; simpa using h)]
    have HC2 := h_ hc2;have HC1 := h_ hc1;have HWR := h_ hwR;have HZ := h_ hz;have HB := h_ hB;have HXR := h_ hxR;obtain ⟨p0, p1, p2, f0, f1⟩ := hB.cells;rw [<- hj] at p1;have hgX : g ≠ X := (by have h1 := HX.out.size; have h2 := (HROW.out); obtain ⟨cur, hc, _⟩ := h2; have := (g_ hc).1; omega);clear hx hrng hok hin hmem hpm v1 v2 v3 v4 hwR hz hB hxR hsR l1' l2' hrow1 hrow2 hvv hcx hc2 hc1 hv hj hmM;go_upto_region 10 with (first
     | (refine u_ (P := Tryz.prog) rfl 70 _ rfl b (off + i * 23) rfl (putR x.a x.c (.slice x.p x.c.t.args.length x.cap)).toList _ HRNG.out Tryz.underlying70 rfl (by kernel_rfl) ?_)
     | (rw [hwZ])
     | (rw [hX])
     | (refine w_ (P := Tryz.prog) rfl 70 _ _ rfl X (putR x.a x.c (.slice x.p x.c.t.args.length x.cap)) rfl rfl 70 _ HZ.out (by kernel_rfl) rfl (yG9 _ _ _ rfl) ?_; rw [HWR.out]))
    by_cases hvp : 0 < v
    . have hvz : ¬ v = 0 := (by omega);go_upto_region 19 with fail;obtain ⟨wS, hwS⟩ := e_ (wR.setCell ⟨X, 1, none⟩ (.int .i64 v));try simp only [hwS]
      have HBS : Hid (PBox wS X (x.a.1, v) x.c (.slice x.p x.c.t.args.length x.cap)) := (by unfold Hid; rw [<- hwS]; exact HB.out.set1 v);have HXS : Hid (Xt wr wS) := (by unfold Hid; rw [<- hwS]; exact HXR.out.grownB (yiv _ _ _ _) (fun q hq => by cases hq; omega));have HGS : Hid (RowL wS g 3 (m + 1) 1 intC (jpe m a n)) := h_ (HRW2.out.of_heap (by rw [<- hwS]; exact s_ _ _ _ _ (by simpa using hgX)));obtain ⟨s0, s1, s2, _, _⟩ := HBS.out.cells;have HDS := h_ (HD.out.xt HXS.out);have hXS : X < wS.heap.size := HBS.out.lt;have hOX : OB < X := by have h1 := HX.out.size; have h2 := HX2.out; have h3 := HD.out.lt; omega
      have hst : y44 cG aG (yan cG aG (pis (l.take i))) (x.a, x.c) = putP (pis l1) (x.a.1, v) (if x.c.kind = 2 then ⟨x.c.kind, x.c.v, jNY cG aG x.c.t⟩ else x.c) := by
       unfold y44;rw [HL.out, zIi HCC.out];simp only;rw [HC2.out, if_pos (by simpa using hvp), HC1.out hvp]
      have hgs : zcM cG n (pis (l.take (i + 1))) = false := by
       rw [zer HXI.out, jNy, HST.out];simp only [Bool.false_or];rw [HC2.out]; simp [hvp]
      have HSTEP := h_ hst;have HGSN := h_ hgs;have HXD := h_ (HX.out.trans HXS.out);clear hst hgs p0 p1 p2 f0 f1 hcj hwS;by_cases hk2 : x.c.kind = 2
      . have HK2 := h_ hk2;have hk2b : (x.c.kind == 2) = true := (by simpa using hk2);have hck : ywH x.c.t = 0 := by
         have h := HGV.out;unfold yQy at h;rw [show (x.c.kind == 0) = false from by rw [hk2]; rfl, show (x.c.kind == 1) = false from by rw [hk2]; rfl, hk2b] at h;simp at h;exact h.2
        obtain ⟨T, hT⟩ := e_ (jNY cG aG x.c.t);have HAL := h_ (zKv false m a n HBD.out.1 HMI.out HBD.out.2.1 HBD.out.2.2 g n0 x.c.t x.p x.cap wS HSM.out (HIN.out.xt ((HX1.out.trans HX.out).trans HXS.out)) (zNY x.c.t false (jAT hck)) HGS.out);rw [HCG.out, HAG.out, hT] at HAL;have HTT := h_ hT;have HTO : Hid (ContT.ok ⟨x.c.kind, x.c.v, T⟩) := by
         have h := yFU (cG := cG) (aG := aG) (jvQ HOK.out);rw [zIi HCC.out, if_pos hk2, hT] at h;exact h
        have HTS : Hid (yQE T) := by
         have h := jCt (cG := cG) (aG := aG) (c := jNS x.c) (jXA _ HSM.out);rw [zIi HCC.out, if_pos hk2, hT] at h;exact h
        have HRF := h_ HBS.out.rngF;have hnv : Value.agg (nodeC x.c.t (.slice x.p x.c.t.args.length x.cap)).toArray = jSk x.c.t x.p x.c.t.args.length x.cap := rfl;clear hT hck hk2;go_wp2_with (first
         | (refine u_ (P := Tryz.prog) rfl 49 _ rfl X 8 rfl (nodeC x.c.t (.slice x.p x.c.t.args.length x.cap)) _ HRF.out Tryz.underlying49 rfl (by kernel_rfl) ?_; rw [hnv])
         | (go_at_call 88; refine (HAL.out).mono ?_; rintro e w5 ⟨a2, c2, rfl, hA5, hx5⟩; have HA5 := h_ hA5; have HX5 := h_ hx5; have HB5 := h_ (HBS.out.xt hx5); have HTH := h_ (HB5.out.there 8 15 (by omega)); obtain ⟨w6, hw6⟩ := e_ (w5.setCells X 8 [.int .i64 T.kind, .int .i64 T.op, .float .f64 T.x, .string T.s, .bool T.b, .int .i64 T.f, .int .i64 T.ref.a.1, .int .i64 T.ref.a.2, .bool T.ref.cf, .bool T.ref.rf, .int .i64 T.to.a.1, .int .i64 T.to.a.2, .bool T.to.cf, .bool T.to.rf, .slice a2 T.args.length c2]); have HB6 : Hid (PBox w6 X (x.a.1, v) ⟨x.c.kind, x.c.v, T⟩ (.slice a2 T.args.length c2)) := (by unfold Hid; rw [<- hw6]; exact HB5.out.form T (.slice a2 T.args.length c2)); have HG6 : Hid (w5.grownBy w6 (some X)) := (by unfold Hid; rw [<- hw6]; exact jRE X _ 8 w5); have HX6 : Hid (Xt wr w6) := h_ ((HXS.out.trans hx5).grownB HG6.out (fun q hq => by cases hq; omega)); have HA6 := h_ (OwnIn.keep (S' := fun b => wS.heap.size <= b) (fun b hb _ => hb) (fun b hb hlt => HG6.out.block b hlt (fun e => by cases e; omega)) hA5).args; have HPU := h_ (ze5 n0 OB l1 (x.a.1, v) ⟨x.c.kind, x.c.v, T⟩ a2 c2 w6 (HD.out.xt HX6.out) HTO.out HTS.out HA6.out); obtain ⟨t0, t1, _, _, _⟩ := HB6.out.cells; have HRC := h_ HB6.out.rngC; have HW6 := h_ hw6; have hcv : Value.agg (yQx ⟨x.c.kind, x.c.v, T⟩ (.slice a2 T.args.length c2)).toArray = jEC ⟨x.c.kind, x.c.v, T⟩ a2 T.args.length c2 := rfl; clear hA5 hx5 hw6)
         | (refine wpList_store_mid (P := Tryz.prog) rfl 49 _ _ rfl X 8 #[.int .i64 T.kind, .int .i64 T.op, .float .f64 T.x, .string T.s, .bool T.b, .int .i64 T.f, .int .i64 T.ref.a.1, .int .i64 T.ref.a.2, .bool T.ref.cf, .bool T.ref.rf, .int .i64 T.to.a.1, .int .i64 T.to.a.2, .bool T.to.cf, .bool T.to.rf, .slice a2 T.args.length c2] rfl rfl HTH.out (by kernel_rfl) (by simp [Value.oneCell']) ?_; rw [HW6.out])
         | (refine u_ (P := Tryz.prog) rfl 51 _ rfl X 2 rfl (yQx ⟨x.c.kind, x.c.v, T⟩ (.slice a2 T.args.length c2)) _ HRC.out Tryz.underlying51 rfl (by kernel_rfl) ?_; rw [hcv])
         | (go_at_call 26; refine (HPU.out).mono ?_; rintro e w7 ⟨l7, rfl, hD7, hp7, hg7⟩; have HD7 := h_ hD7; have HP7 := h_ hp7; have HX7 := h_ ((HX.out.trans HX6.out).grownB hg7 (fun q hq => by cases hq; have := HOB.out; omega)); clear hD7 hp7 hg7))
        go_roundw
        case rel => exact ⟨i + 1, l7, by omega, by go_num, HD7, by unfold Hid; rw [HP7.out, zer HXI.out, jon, HSTEP.out, if_pos HK2.out, HTT.out], HGSN, HX7⟩
        case measure => simp [intOf]; omega
      . have HK2 := h_ hk2;have hk2b : (x.c.kind == 2) = false := (by simpa using hk2);have HRC := h_ HBS.out.rngC;have HPU := h_ (ze5 n0 OB l1 (x.a.1, v) x.c x.p x.cap wS HDS.out HOK.out HSM.out (HIN.out.xt ((HX1.out.trans HX.out).trans HXS.out)));have hcv : Value.agg (yQx x.c (.slice x.p x.c.t.args.length x.cap)).toArray = jEC x.c x.p x.c.t.args.length x.cap := rfl;clear hk2;go_wp2_with (first
         | (refine u_ (P := Tryz.prog) rfl 51 _ rfl X 2 rfl (yQx x.c (.slice x.p x.c.t.args.length x.cap)) _ HRC.out Tryz.underlying51 rfl (by kernel_rfl) ?_; rw [hcv])
         | (go_at_call 26; refine (HPU.out).mono ?_; rintro e w7 ⟨l7, rfl, hD7, hp7, hg7⟩; have HD7 := h_ hD7; have HP7 := h_ hp7; have HX7 := h_ (HXD.out.grownB hg7 (fun q hq => by cases hq; have := HOB.out; omega)); clear hD7 hp7 hg7))
        go_roundw
        case rel => exact ⟨i + 1, l7, by omega, by go_num, HD7, by unfold Hid; rw [HP7.out, zer HXI.out, jon, HSTEP.out, if_neg HK2.out], HGSN, HX7⟩
        case measure => simp [intOf]; omega
    . obtain rfl : v = 0 := by omega
      have hc2f : (cG x.a).2 = false := (by rw [HC2.out]; rfl);have HC2F := h_ hc2f;clear hc2f;by_cases hn0 : 0 < n
      . go_wp2_with fail
        go_ret2
        rw [<- HANS.out, if_pos (yzu (List.mem_map.2 ⟨x, m_ HXI.out, rfl⟩) HC2F.out hn0)];exact ⟨(HX1.out.trans HX.out).trans HXR.out, Or.inl ⟨rfl, rfl⟩⟩
      . go_wp2_with fail;go_roundw
        case rel => exact ⟨i + 1, l1, by omega, by go_num, HD.out.xt HXR.out, by unfold Hid; rw [HL.out, zer HXI.out, jon, y44, if_neg (by simp [HC2F.out])], by unfold Hid; rw [zer HXI.out, jNy, HST.out, HC2F.out]; simp [hn0], HX.out.trans HXR.out⟩
        case measure => simp [intOf]; omega
  . have hki : ¬ (i : Int) < (l.length : Int) := (by omega);obtain rfl : i = l.length := by omega
    have hst := HST.out;rw [List.take_length] at hst;have hl := HL.out;rw [List.take_length] at hl;go_wp2_with fail
    go_ret2
    rw [<- HANS.out, hst];simp only [Bool.false_eq_true, if_false];exact ⟨HX1.out.trans HX.out, Or.inr ⟨OB, l1, rfl, HD.out, by rw [hl], hOBw⟩⟩
def GetR (w : World) (c : ContT) (e : Ending) (w' : World) : Prop := ∃ p k n, e = .returned (jEC c p c.t.args.length k) /\ ArgsIn w' n (.slice p c.t.args.length k) c.t.args /\ Xt w w'
theorem jdF (rb : Nat) (l : List PI) (a : Ad) (w : World) (h : DG w rb l) (hO : GOk (pis l)) :
    Calls Tryz.prog 94 #[v_ rb, .agg #[a.1, a.2]] w (GetR w ((lkM a (pis l)).getD zeroC)) := by
 obtain ⟨v, hc, hP⟩ := h.cell;obtain ⟨la, lc, rfl, hlc, hlc2⟩ := hP.shape;have hm := h.many;have H := h_ h;have HO := h_ hO;obtain ⟨B, hB⟩ := e_ w.heap.size;obtain ⟨w0, hw0⟩ := e_ (w.alloc (.cells #[a.1, a.2] 24));have hs0 : w0.heap.size = B + 1 := (by rw [<- hw0, <- hB]; simp);obtain ⟨w1, hw1⟩ := e_ (w0.alloc (.cells zC 51))
 have HX1 : Hid (Xt w w1) := (by unfold Hid; rw [<- hw1, <- hw0]; exact ((Xt.refl _).alloc _).alloc _);have HR0 : Hid (r_ w1 B #[a.1, a.2] 24) := rowX (w := w0) (by rw [<- hw1]; exact (Xt.refl _).alloc _) (by rw [<- hw0, <- hB]; exact (a_ w _).1)
 have HR1 : Hid (r_ w1 (B + 1) zC 51) := (by unfold Hid; rw [<- hw1, <- hs0]; exact (a_ w0 _).1);obtain ⟨y0, y1, _, _⟩ := zxi HR0.out;have HP := h_ (hP.xt HX1.out);have HC := h_ (HX1.out.cellsIn _ _ _ hc);have HPL := h_ (yCp rb l a w1 (h.xt HX1.out));clear h hc hP hO;go_enter Tryz.func94, Tryz.ntmps94;go_upto_region 2 with (first
  | (go_at_call 66; refine (HPL.out).mono ?_; rintro e w2 ⟨lo, is, rfl, hpos, hx2⟩; have HPOS := h_ hpos; have HX2 := h_ hx2; have HR2 := h_ (rowX hx2 HR1.out); have c2 := hx2.cellsIn _ _ _ HC.out; clear hx2 hpos))
 cases is
 . obtain ⟨w3, hw3⟩ := e_ (w2.setRow (B + 1) zC);have HW3 := h_ hw3
   have HR3 : Hid (r_ w3 (B + 1) zC 51) := (by unfold Hid; rw [<- hw3]; exact setRow_heap w2 _ _ _ _ _ HR2.out);have HG3 : Hid (w2.grownBy w3 (some (B + 1))) := (by unfold Hid; rw [<- hw3]; exact jGX _ _ _);clear hw3;go_wp2_with (first
    | (refine w_ (P := Tryz.prog) rfl 51 _ _ rfl (B + 1) #[.int .i64 0, .int .i64 0, .float .f64 0, .string ⟨#[]⟩, .bool false, .int .i64 0, .int .i64 0, .int .i64 0, .float .f64 0, .string ⟨#[]⟩, .bool false, .int .i64 0, .int .i64 0, .int .i64 0, .bool false, .bool false, .int .i64 0, .int .i64 0, .bool false, .bool false, .slice none 0 0] rfl rfl 51 _ HR2.out (by kernel_rfl) rfl (by simp [Value.oneCell']) ?_; rw [HW3.out]))
   (try simp only [Exit.inBlock, Exit.then])
   refine p_ (t_ rfl _ _ (B + 1) _ _ _ _ rfl HR3.out Tryz.underlying51 rfl (by kernel_rfl)) rfl ?_;have hn : lkM a (pis l) = none := by have := (HPOS.out.look H.out.sorted).1; cases hl : lkM a (pis l) with | none => rfl | some x => rw [hl] at this; cases this
   rw [hn];exact ⟨none, 0, 1, rfl, ⟨none, 0, rfl, by simp [zeroC, NodeT.args], by omega, fun h => absurd rfl h⟩, (HX1.out.trans HX2.out).grownB HG3.out (fun m hm => by cases hm; omega)⟩
 . obtain ⟨x, hx, hxa⟩ := HPOS.out.there.1 rfl;have hlt := (List.getElem?_eq_some_iff.1 hx).1;have hki : (lo : Int) < (l.length : Int) := (by omega);obtain ⟨b, off, rfl, q0, q1, q2, hok, n, hin⟩ := HP.out.at hx;have hlk := (HPOS.out.look H.out.sorted).2 x hx rfl;have hcc : jNS x.c = x.c := (HO.out.each _ (zL0 hlk)).2.2.2.1;have HCP := h_ (ybd n x.c x.p x.cap w2 (H.out.small x (m_ hx)) (hin.xt HX2.out));rw [hcc] at HCP;have HRNG : Hid (w2.rangeAt b (off + lo * 23 + 2) ((inC1 x).drop 2)) := h_ fun j u hu => HX2.out.cellsIn _ _ _ (q2 j u hu);have HLK := h_ hlk;obtain ⟨d, hd⟩ := e_ x.c;have HDC := h_ hd
   have hcv : Value.agg ((inC1 x).drop 2).toArray = jEC x.c x.p x.c.t.args.length x.cap := rfl;clear hx hxa q0 q1 q2 hok hin hlk hcc hd;rw [HDC.out] at HCP HLK;go_wp2_with (first
    | (refine u_ (P := Tryz.prog) rfl 51 _ rfl b (off + lo * 23 + 2) rfl ((inC1 x).drop 2) _ HRNG.out Tryz.underlying51 rfl (by kernel_rfl) ?_; rw [hcv, HDC.out])
    | (go_at_call 67; refine (HCP.out).mono ?_; rintro e w5 ⟨p5, k5, rfl, hA5, hx5⟩; have HA5 := h_ hA5; have HX5 := h_ hx5; have HR5 := h_ (rowX hx5 HR2.out); obtain ⟨w6, hw6⟩ := e_ (w5.setRow (B + 1) (rQ d (.slice p5 d.t.args.length k5))); have HW6 := h_ hw6; have HR6 : Hid (r_ w6 (B + 1) (rQ d (.slice p5 d.t.args.length k5)) 51) := (by unfold Hid; rw [<- hw6]; exact setRow_heap w5 _ _ _ _ _ HR5.out); have HG6 : Hid (w5.grownBy w6 (some (B + 1))) := (by unfold Hid; rw [<- hw6]; exact jGX _ _ _); clear hA5 hx5 hw6)
    | (refine w_ (P := Tryz.prog) rfl 51 _ _ rfl (B + 1) #[.int .i64 d.kind, .int .i64 d.v.kind, .float .f64 d.v.x, .string d.v.s, .bool d.v.b, .int .i64 d.v.f, .int .i64 d.t.kind, .int .i64 d.t.op, .float .f64 d.t.x, .string d.t.s, .bool d.t.b, .int .i64 d.t.f, .int .i64 d.t.ref.a.1, .int .i64 d.t.ref.a.2, .bool d.t.ref.cf, .bool d.t.ref.rf, .int .i64 d.t.to.a.1, .int .i64 d.t.to.a.2, .bool d.t.to.cf, .bool d.t.to.rf, .slice p5 d.t.args.length k5] rfl rfl 51 _ HR5.out (by kernel_rfl) rfl (by simp [Value.oneCell']) ?_; rw [HW6.out]))
   (try simp only [Exit.inBlock, Exit.then])
   refine p_ (t_ rfl _ _ (B + 1) _ _ _ _ rfl HR6.out Tryz.underlying51 rfl (by kernel_rfl)) rfl ?_;rw [HLK.out];have hB2 : B + 1 < w2.heap.size := (g_ HR2.out).1;exact ⟨p5, k5, n, rfl, (OwnIn.keep (S' := fun b => w2.heap.size <= b) (fun b hb _ => hb) (fun b hb hlt => HG6.out.block b hlt (fun e => by cases e; omega)) HA5.out).args, ((HX1.out.trans HX2.out).trans HX5.out).grownB HG6.out (fun m hm => by cases hm; omega)⟩
end
end Go.Proofs.YtdoeejhdenifpaaGreatDoor
