import Derived.Test.YtdoeejhdenifpaaGreatDoorB36
import Derived.Test.YtdoeejhdenifpaaGreatDoorB42
import Derived.Test.YtdoeejhdenifpaaGreatDoorB41
import Derived.Test.YtdoeejhdenifpaaGreatDoorB35
set_option maxRecDepth 100000
set_option maxHeartbeats 16000000
namespace Go.Proofs.YtdoeejhdenifpaaGreatDoor
section
open Go.RowKit Go.Sort Go.Maps Go.Shelf Go.MapKept
def PrgR (o : Ans) (w : World) (e : Ending) (w' : World) : Prop :=
 Xt w w' /\ ((e = .returned (.tuple #[.pointer none, .int .i64 o.2]) /\ o.1 = none) \/ ∃ go mo Mo, e = .returned (.tuple #[v_ go, .int .i64 0]) /\ GridIs w' go mo Mo /\ o.1 = some (er Mo) /\ w.heap.size <= mo)
section
variable {w : World} {gb mb : Nat} {M : GM}
theorem BrR.prg {cols : Bool} {a n : Int} {e : Ending} {w' : World} (h : BrR cols a n M w e w') : PrgR (jWQ cols a n (er M)) w e w' := by
 obtain ⟨hx, h⟩ := h;refine ⟨hx, ?_⟩;unfold jWQ;rcases h with ⟨h1, rfl⟩ | ⟨h1, h⟩
 . rw [if_pos h1]; exact Or.inl ⟨rfl, rfl⟩
 . rw [if_neg (by rw [h1]; simp)];rcases h with ⟨h2, rfl⟩ | ⟨h2, go, mo, Mo, rfl, hg, hm, hb, _⟩
   . rw [if_pos h2]; exact Or.inl ⟨rfl, rfl⟩
   . rw [if_neg (by rw [h2]; simp)];exact Or.inr ⟨go, mo, Mo, rfl, hg, by rw [hm], hb⟩
theorem yHP (at_ n : Int) (hG : GridIs w gb mb M) (hT : Tabs w) (hO : GOk (er M)) : Calls Tryz.prog 33 #[v_ gb, .int .i64 at_, .int .i64 n] w (PrgR (jWQ false at_ n (er M)) w) :=
 (yaX at_ n gb mb M w hG hT hO).mono fun _ _ h => h.prg
theorem yJp (at_ n : Int) (hG : GridIs w gb mb M) (hT : Tabs w) (hO : GOk (er M)) : Calls Tryz.prog 34 #[v_ gb, .int .i64 at_, .int .i64 n] w (PrgR (jWQ true at_ n (er M)) w) :=
 (z7G at_ n gb mb M w hG hT hO).mono fun _ _ h => h.prg
theorem CopyR.prg {o : Option PG} {e : Ending} {w' : World} (h : CopyR o w e w') : PrgR (yuv o) w e w' := by
 obtain ⟨hx, h⟩ := h;refine ⟨hx, ?_⟩;rcases h with ⟨rfl, rfl⟩ | ⟨go, mo, Mo, rfl, hg, rfl, hb⟩
 . exact Or.inl ⟨rfl, rfl⟩
 . exact Or.inr ⟨go, mo, Mo, rfl, hg, rfl, hb⟩
theorem yi4 (f : ArT) (g : Ad) (hG : GridIs w gb mb M) (hT : Tabs w) (hO : GOk (er M)) : Calls Tryz.prog 27 #[v_ gb, arT f, .agg #[g.1, g.2]] w (PrgR (yts f g (er M)) w) := by
 unfold yts;cases hv : ygU f.a f.b f.c f.d
 . simp only [if_true];refine (jFX f g gb w hv).mono ?_;rintro e w' ⟨rfl, hx⟩;exact ⟨hx, Or.inl ⟨rfl, rfl⟩⟩
 simp only [Bool.true_eq_false, if_false];cases hv1 : (y8L g.1 g.2 && y8L (zyU f g).1 (zyU f g).2)
 . simp only [if_true];refine (zlO f g gb w hv hv1).mono ?_;rintro e w' ⟨rfl, hx⟩;exact ⟨hx, Or.inl ⟨rfl, rfl⟩⟩
 simp only [Bool.true_eq_false, if_false];have hv2 := hv1;simp only [Bool.and_eq_true] at hv2;exact (jLW f g (zJt f g) (z4o f g) (jLL f g) gb mb M w hG hT hO hv hv2.1 hv2.2 rfl rfl rfl (zFL hv hv1)).mono fun _ _ h => h.prg
theorem zDM (f : ArT) (g : Ad) (hG : GridIs w gb mb M) (hT : Tabs w) (hO : GOk (er M)) : Calls Tryz.prog 28 #[v_ gb, .agg #[g.1, g.2], arT f] w (PrgR (jJL g f (er M)) w) := by
 unfold jJL;cases hv : ygU f.a f.b f.c f.d
 . simp only [if_true];refine (y2E f g gb w hv).mono ?_;rintro e w' ⟨rfl, hx⟩;exact ⟨hx, Or.inl ⟨rfl, rfl⟩⟩
 simp only [Bool.true_eq_false, if_false];cases hv1 : y8L g.1 g.2
 . simp only [if_true];refine (zY3 f g gb w hv hv1).mono ?_;rintro e w' ⟨rfl, hx⟩;exact ⟨hx, Or.inl ⟨rfl, rfl⟩⟩
 simp only [Bool.true_eq_false, if_false];exact (y9Z g f gb mb M w hG hT hO hv hv1).mono fun _ _ h => h.prg
theorem ywD (f : ArT) (g : Ad) (hG : GridIs w gb mb M) (hT : Tabs w) (hO : GOk (er M)) : Calls Tryz.prog 12 #[v_ gb, arT f, .agg #[g.1, g.2]] w (PrgR (jst f g (er M)) w) := by
 unfold jst;cases hv : ygU f.a f.b f.c f.d
 . simp only [if_true];refine (ztP f g gb w hv).mono ?_;rintro e w' ⟨rfl, hx⟩;exact ⟨hx, Or.inl ⟨rfl, rfl⟩⟩
 simp only [Bool.true_eq_false, if_false];cases hv1 : (y8L g.1 g.2 && y8L (zyU f g).1 (zyU f g).2)
 . simp only [if_true];refine (jz9 f g gb w hv hv1).mono ?_;rintro e w' ⟨rfl, hx⟩;exact ⟨hx, Or.inl ⟨rfl, rfl⟩⟩
 simp only [Bool.true_eq_false, if_false];have hv2 := hv1;simp only [Bool.and_eq_true] at hv2;refine (ygL f g gb mb M w hG hT hO hv hv2.1 hv2.2).mono ?_;rintro e w' ⟨hx, go, mo, Mo, rfl, hg, hm, hb⟩;exact ⟨hx, Or.inr ⟨go, mo, Mo, rfl, hg, by rw [hm]; rfl, hb⟩⟩
theorem yqR (f : ArT) (hG : GridIs w gb mb M) (hT : Tabs w) (hO : GOk (er M)) : Calls Tryz.prog 29 #[v_ gb, arT f] w (PrgR (zpf f (er M)) w) := by
 unfold zpf;cases hv : ygU f.a f.b f.c f.d
 . simp only [if_true];refine (jUp f gb w hv).mono ?_;rintro e w' ⟨rfl, hx⟩;exact ⟨hx, Or.inl ⟨rfl, rfl⟩⟩
 simp only [Bool.true_eq_false, if_false];refine (jaU f gb mb M w hG hT hO hv).mono ?_;rintro e w' ⟨hx, go, mo, Mo, rfl, hg, hm, hb⟩;exact ⟨hx, Or.inr ⟨go, mo, Mo, rfl, hg, by rw [hm], hb⟩⟩
end
end
section
open Go.RowKit Go.Sort Go.Maps Go.Shelf Go.MapKept
attribute [local go_sem] Oper.semAt_some
theorem zit (a n : Int) (rb : Nat) (l : List PI) (w : World) (h : DG w rb l) (hO : GOk (pis l)) (hm : (jls (yaC true) a n).2 = true) :
    Calls Tryz.prog 56 #[v_ rb, .bool true, .int .i64 a, .int .i64 n] w (DocR (jWQ true a n (pis l)) w) := by
 obtain ⟨vv, hc, hP⟩ := h.cell;obtain ⟨la, lc, rfl, hlc, hlc2⟩ := hP.shape;have hml := h.many;have H := h_ h;have HO := h_ hO;have HM := h_ (fun V => yRB true a n V);obtain ⟨m, hmv⟩ : ∃ m : Nat, m = 256 := ⟨_, rfl⟩;have hmI : zuS true = (m : Int) := (by rw [hmv]; rfl);have hmL : yaC true = (m : Int) := (by rw [hmv]; rfl);unfold jWQ;rw [hmL] at hm ⊢;rw [hmI, hm] at HM;rw [hm];simp only [Bool.true_eq_false, if_false];have hMM := hm;unfold jls at hMM;simp only [Bool.and_eq_true, decide_eq_true_eq] at hMM;obtain ⟨⟨⟨m1, m2⟩, m3⟩, m4⟩ := hMM;have HPL := h_ (fun V => j6e m a n V (by omega) ⟨m1, m2⟩ ⟨m3, m4⟩)
 have HBD : Hid (m <= 4096 /\ (1 <= a /\ a <= m) /\ (-(m : Int) <= n /\ n <= m)) := ⟨by omega, ⟨m1, m2⟩, ⟨m3, m4⟩⟩;have HMI : Hid ((m : Int) = zuS true) := hmI.symm;have HMV := h_ hmv;obtain ⟨cG, hcG⟩ := e_ (z7H true ⟨a, n, m⟩);obtain ⟨aG, haG⟩ := e_ (zi9 true ⟨a, n, m⟩);have HCG := h_ hcG;have HAG := h_ haG;rw [hcG, haG];obtain ⟨ans, hans⟩ := e_ (if zcM cG n (pis l) = true then ((none, 20) : Ans) else (some (yan cG aG (pis l)), 0));rw [hans];have HANS := h_ hans;have HP := h_ hP;have HC := h_ hc;clear hans h hc hP hO hm hmI hmL m1 m2 m3 m4 hmv hcG haG;go_enter Tryz.func56, Tryz.ntmps56
 go_upto_region 6 with (first
  | (go_at_call 86; refine (HM.out _).mono ?_; rintro e w2 ⟨rfl, rfl⟩)
  | (go_at_call 87; refine (HPL.out _).mono ?_; rintro e w1 ⟨g, rfl, hrow, hgl, hx1⟩; have HROW := h_ hrow; have HX1 := h_ hx1; clear hrow hx1))
 obtain ⟨OB, hOB⟩ := e_ w1.heap.size;obtain ⟨w2, hw2⟩ := e_ (w1.alloc (.cells #[.slice none 0 0] 109));simp only [hw2, hOB];have HX2 : Hid (Xt w1 w2) := (by unfold Hid; rw [<- hw2]; exact (Xt.refl _).alloc _);have HD2 := h_ (DG.fresh hw2);rw [hOB] at HD2;have hOBw : w.heap.size <= OB := (by have := HX1.out.size; omega);have HOB := h_ hOB;clear hw2 hOB;go_wp2_with fail
 go_loopw [14] (fun s14 wr => ∃ (i : Nat) (l1 : List PI), i <= l.length /\ s14 = .int .i64 i /\ Hid (DG wr OB l1) /\ Hid (pis l1 = yan cG aG (pis (l.take i))) /\ Hid (zcM cG n (pis (l.take i)) = false) /\ Hid (Xt w1 wr)) (fun s14 _ => l.length - (intOf s14).toNat)
 case atStart => exact ⟨0, [], Nat.zero_le _, rfl, HD2, by unfold Hid; rfl, by unfold Hid; rfl, HX2⟩
 case round =>
  obtain ⟨i, l1, hi, rfl, HD, HL, HST, HX⟩ := hrel;have HXW := h_ (HX1.out.trans HX.out);have kc := HXW.out.cellsIn _ _ _ HC.out;by_cases hlt : i < l.length
  . have hki : (i : Int) < (l.length : Int) := (by omega);obtain ⟨x, hx⟩ : ∃ x, l[i]? = some x := ⟨l[i], j_ hlt⟩;obtain ⟨b, off, rfl, hrng⟩ := HP.out.row hx;obtain ⟨b', off', e', _, _, _, hok, n0, hin⟩ := HP.out.at hx;clear e';have HXI := h_ hx;have HRNG := h_ (jdA HXW.out hrng);have HOK := h_ hok;have HIN := h_ hin;have hmem := m_ hx;have HSM := h_ (H.out.small x hmem);have hpm : (x.a, x.c) ∈ pis l := List.mem_map.2 ⟨x, hmem, rfl⟩;obtain ⟨v1, v2, v3, v4, _⟩ := HO.out.each _ hpm;have hv := yZ6 v1;have HGV := h_ v2;have HCC := h_ v4;have hmM := HMV.out
    obtain ⟨wZ, wR, hwZ, hwR, hz, hB, hxR, hsR⟩ := boxP wr x.a x.c (.slice x.p x.c.t.args.length x.cap);obtain ⟨X, hX⟩ := e_ wr.heap.size;rw [hX] at hwR hz hB;obtain ⟨l1', l2'⟩ := j5u HBD.out.1 HBD.out.2.1 HBD.out.2.2 (k := x.a.1) ⟨by simp only at hv; omega, by simp only at hv; omega⟩;have hrow1 := HROW.out.of_heap (HX.out.block g (by obtain ⟨cur, hc, _⟩ := HROW.out; exact (g_ hc).1));have hrow2 := hrow1.of_heap (hxR.block g (by obtain ⟨cur, hc, _⟩ := hrow1; exact (g_ hc).1));obtain ⟨j, hj, hjm, hcj⟩ := jIK hrow2 (k := x.a.1) (by simp only at hv; omega) (by simp only at hv; omega);have HRW2 := h_ hrow2
    obtain ⟨v, hvv⟩ := e_ (yMh m a n x.a.1);rw [hvv] at l1' l2' hcj;have hv0 : 0 <= v := (by rw [<- hvv]; unfold yMh; simp only at hv; have := HBD.out; (repeat' split) <;> omega);have hcx : cG x.a = (((jLa ⟨a, n, m⟩ x.a.1).1, x.a.2), (jLa ⟨a, n, m⟩ x.a.1).2) := (by rw [<- HCG.out]; unfold z7H; simp);have hc2 : (cG x.a).2 = decide (0 < v) := (by rw [hcx]; exact l1');have hc1 : 0 < v -> (cG x.a).1 = (v, x.a.2) := fun h => by rw [hcx]; simp only; rw [l2' (by rw [l1']; simpa using h)]
    have HC2 := h_ hc2;have HC1 := h_ hc1;have HWR := h_ hwR;have HZ := h_ hz;have HB := h_ hB;have HXR := h_ hxR;obtain ⟨p0, p1, p2, f0, f1⟩ := hB.cells;rw [<- hj] at p0;have hgX : g ≠ X := (by have h1 := HX.out.size; have h2 := (HROW.out); obtain ⟨cur, hc, _⟩ := h2; have := (g_ hc).1; omega);clear hx hrng hok hin hmem hpm v1 v2 v3 v4 hwR hz hB hxR hsR l1' l2' hrow1 hrow2 hvv hcx hc2 hc1 hv hj hmM;go_upto_region 10 with (first
     | (refine u_ (P := Tryz.prog) rfl 70 _ rfl b (off + i * 23) rfl (putR x.a x.c (.slice x.p x.c.t.args.length x.cap)).toList _ HRNG.out Tryz.underlying70 rfl (by kernel_rfl) ?_)
     | (rw [hwZ])
     | (rw [hX])
     | (refine w_ (P := Tryz.prog) rfl 70 _ _ rfl X (putR x.a x.c (.slice x.p x.c.t.args.length x.cap)) rfl rfl 70 _ HZ.out (by kernel_rfl) rfl (yG9 _ _ _ rfl) ?_; rw [HWR.out]))
    by_cases hvp : 0 < v
    . have hvz : ¬ v = 0 := (by omega);go_upto_region 19 with fail;obtain ⟨wS, hwS⟩ := e_ (wR.setCell ⟨X, 0, none⟩ (.int .i64 v));try simp only [hwS]
      have HBS : Hid (PBox wS X (v, x.a.2) x.c (.slice x.p x.c.t.args.length x.cap)) := (by unfold Hid; rw [<- hwS]; exact HB.out.set0 v);have HXS : Hid (Xt wr wS) := (by unfold Hid; rw [<- hwS]; exact HXR.out.grownB (yiv _ _ _ _) (fun q hq => by cases hq; omega));have HGS : Hid (RowL wS g 3 (m + 1) 1 intC (jpe m a n)) := h_ (HRW2.out.of_heap (by rw [<- hwS]; exact s_ _ _ _ _ (by simpa using hgX)));obtain ⟨s0, s1, s2, _, _⟩ := HBS.out.cells;have HDS := h_ (HD.out.xt HXS.out);have hXS : X < wS.heap.size := HBS.out.lt;have hOX : OB < X := by have h1 := HX.out.size; have h2 := HX2.out; have h3 := HD.out.lt; omega
      have hst : y44 cG aG (yan cG aG (pis (l.take i))) (x.a, x.c) = putP (pis l1) (v, x.a.2) (if x.c.kind = 2 then ⟨x.c.kind, x.c.v, jNY cG aG x.c.t⟩ else x.c) := by
       unfold y44;rw [HL.out, zIi HCC.out];simp only;rw [HC2.out, if_pos (by simpa using hvp), HC1.out hvp]
      have hgs : zcM cG n (pis (l.take (i + 1))) = false := by
       rw [zer HXI.out, jNy, HST.out];simp only [Bool.false_or];rw [HC2.out]; simp [hvp]
      have HSTEP := h_ hst;have HGSN := h_ hgs;have HXD := h_ (HX.out.trans HXS.out);clear hst hgs p0 p1 p2 f0 f1 hcj hwS;by_cases hk2 : x.c.kind = 2
      . have HK2 := h_ hk2;have hk2b : (x.c.kind == 2) = true := (by simpa using hk2);have hck : ywH x.c.t = 0 := by
         have h := HGV.out;unfold yQy at h;rw [show (x.c.kind == 0) = false from by rw [hk2]; rfl, show (x.c.kind == 1) = false from by rw [hk2]; rfl, hk2b] at h;simp at h;exact h.2
        obtain ⟨T, hT⟩ := e_ (jNY cG aG x.c.t);have HAL := h_ (zKv true m a n HBD.out.1 HMI.out HBD.out.2.1 HBD.out.2.2 g n0 x.c.t x.p x.cap wS HSM.out (HIN.out.xt ((HX1.out.trans HX.out).trans HXS.out)) (zNY x.c.t false (jAT hck)) HGS.out);rw [HCG.out, HAG.out, hT] at HAL;have HTT := h_ hT;have HTO : Hid (ContT.ok ⟨x.c.kind, x.c.v, T⟩) := by
         have h := yFU (cG := cG) (aG := aG) (jvQ HOK.out);rw [zIi HCC.out, if_pos hk2, hT] at h;exact h
        have HTS : Hid (yQE T) := by
         have h := jCt (cG := cG) (aG := aG) (c := jNS x.c) (jXA _ HSM.out);rw [zIi HCC.out, if_pos hk2, hT] at h;exact h
        have HRF := h_ HBS.out.rngF;have hnv : Value.agg (nodeC x.c.t (.slice x.p x.c.t.args.length x.cap)).toArray = jSk x.c.t x.p x.c.t.args.length x.cap := rfl;clear hT hck hk2;go_wp2_with (first
         | (refine u_ (P := Tryz.prog) rfl 49 _ rfl X 8 rfl (nodeC x.c.t (.slice x.p x.c.t.args.length x.cap)) _ HRF.out Tryz.underlying49 rfl (by kernel_rfl) ?_; rw [hnv])
         | (go_at_call 88; refine (HAL.out).mono ?_; rintro e w5 ⟨a2, c2, rfl, hA5, hx5⟩; have HA5 := h_ hA5; have HX5 := h_ hx5; have HB5 := h_ (HBS.out.xt hx5); have HTH := h_ (HB5.out.there 8 15 (by omega)); obtain ⟨w6, hw6⟩ := e_ (w5.setCells X 8 [.int .i64 T.kind, .int .i64 T.op, .float .f64 T.x, .string T.s, .bool T.b, .int .i64 T.f, .int .i64 T.ref.a.1, .int .i64 T.ref.a.2, .bool T.ref.cf, .bool T.ref.rf, .int .i64 T.to.a.1, .int .i64 T.to.a.2, .bool T.to.cf, .bool T.to.rf, .slice a2 T.args.length c2]); have HB6 : Hid (PBox w6 X (v, x.a.2) ⟨x.c.kind, x.c.v, T⟩ (.slice a2 T.args.length c2)) := (by unfold Hid; rw [<- hw6]; exact HB5.out.form T (.slice a2 T.args.length c2)); have HG6 : Hid (w5.grownBy w6 (some X)) := (by unfold Hid; rw [<- hw6]; exact jRE X _ 8 w5); have HX6 : Hid (Xt wr w6) := h_ ((HXS.out.trans hx5).grownB HG6.out (fun q hq => by cases hq; omega)); have HA6 := h_ (OwnIn.keep (S' := fun b => wS.heap.size <= b) (fun b hb _ => hb) (fun b hb hlt => HG6.out.block b hlt (fun e => by cases e; omega)) hA5).args; have HPU := h_ (ze5 n0 OB l1 (v, x.a.2) ⟨x.c.kind, x.c.v, T⟩ a2 c2 w6 (HD.out.xt HX6.out) HTO.out HTS.out HA6.out); obtain ⟨t0, t1, _, _, _⟩ := HB6.out.cells; have HRC := h_ HB6.out.rngC; have HW6 := h_ hw6; have hcv : Value.agg (yQx ⟨x.c.kind, x.c.v, T⟩ (.slice a2 T.args.length c2)).toArray = jEC ⟨x.c.kind, x.c.v, T⟩ a2 T.args.length c2 := rfl; clear hA5 hx5 hw6)
         | (refine wpList_store_mid (P := Tryz.prog) rfl 49 _ _ rfl X 8 #[.int .i64 T.kind, .int .i64 T.op, .float .f64 T.x, .string T.s, .bool T.b, .int .i64 T.f, .int .i64 T.ref.a.1, .int .i64 T.ref.a.2, .bool T.ref.cf, .bool T.ref.rf, .int .i64 T.to.a.1, .int .i64 T.to.a.2, .bool T.to.cf, .bool T.to.rf, .slice a2 T.args.length c2] rfl rfl HTH.out (by kernel_rfl) (by simp [Value.oneCell']) ?_; rw [HW6.out])
         | (refine u_ (P := Tryz.prog) rfl 51 _ rfl X 2 rfl (yQx ⟨x.c.kind, x.c.v, T⟩ (.slice a2 T.args.length c2)) _ HRC.out Tryz.underlying51 rfl (by kernel_rfl) ?_; rw [hcv])
         | (go_at_call 26; refine (HPU.out).mono ?_; rintro e w7 ⟨l7, rfl, hD7, hp7, hg7⟩; have HD7 := h_ hD7; have HP7 := h_ hp7; have HX7 := h_ ((HX.out.trans HX6.out).grownB hg7 (fun q hq => by cases hq; have := HOB.out; omega)); clear hD7 hp7 hg7))
        go_roundw
        case rel => exact ⟨i + 1, l7, by omega, by go_num, HD7, by unfold Hid; rw [HP7.out, zer HXI.out, jon, HSTEP.out, if_pos HK2.out, HTT.out], HGSN, HX7⟩
        case measure => simp [intOf]; omega
      . have HK2 := h_ hk2;have hk2b : (x.c.kind == 2) = false := (by simpa using hk2);have HRC := h_ HBS.out.rngC;have HPU := h_ (ze5 n0 OB l1 (v, x.a.2) x.c x.p x.cap wS HDS.out HOK.out HSM.out (HIN.out.xt ((HX1.out.trans HX.out).trans HXS.out)));have hcv : Value.agg (yQx x.c (.slice x.p x.c.t.args.length x.cap)).toArray = jEC x.c x.p x.c.t.args.length x.cap := rfl;clear hk2;go_wp2_with (first
         | (refine u_ (P := Tryz.prog) rfl 51 _ rfl X 2 rfl (yQx x.c (.slice x.p x.c.t.args.length x.cap)) _ HRC.out Tryz.underlying51 rfl (by kernel_rfl) ?_; rw [hcv])
         | (go_at_call 26; refine (HPU.out).mono ?_; rintro e w7 ⟨l7, rfl, hD7, hp7, hg7⟩; have HD7 := h_ hD7; have HP7 := h_ hp7; have HX7 := h_ (HXD.out.grownB hg7 (fun q hq => by cases hq; have := HOB.out; omega)); clear hD7 hp7 hg7))
        go_roundw
        case rel => exact ⟨i + 1, l7, by omega, by go_num, HD7, by unfold Hid; rw [HP7.out, zer HXI.out, jon, HSTEP.out, if_neg HK2.out], HGSN, HX7⟩
        case measure => simp [intOf]; omega
    . obtain rfl : v = 0 := by omega
      have hc2f : (cG x.a).2 = false := (by rw [HC2.out]; rfl);have HC2F := h_ hc2f;clear hc2f;by_cases hn0 : 0 < n
      . go_wp2_with fail
        go_ret2
        rw [<- HANS.out, if_pos (yzu (List.mem_map.2 ⟨x, m_ HXI.out, rfl⟩) HC2F.out hn0)];exact ⟨(HX1.out.trans HX.out).trans HXR.out, Or.inl ⟨rfl, rfl⟩⟩
      . go_wp2_with fail;go_roundw
        case rel => exact ⟨i + 1, l1, by omega, by go_num, HD.out.xt HXR.out, by unfold Hid; rw [HL.out, zer HXI.out, jon, y44, if_neg (by simp [HC2F.out])], by unfold Hid; rw [zer HXI.out, jNy, HST.out, HC2F.out]; simp [hn0], HX.out.trans HXR.out⟩
        case measure => simp [intOf]; omega
  . have hki : ¬ (i : Int) < (l.length : Int) := (by omega);obtain rfl : i = l.length := by omega
    have hst := HST.out;rw [List.take_length] at hst;have hl := HL.out;rw [List.take_length] at hl;go_wp2_with fail
    go_ret2
    rw [<- HANS.out, hst];simp only [Bool.false_eq_true, if_false];exact ⟨HX1.out.trans HX.out, Or.inr ⟨OB, l1, rfl, HD.out, by rw [hl], hOBw⟩⟩
theorem yni (f : ArT) (g : Ad) (rb : Nat) (w : World) (hv : ygU f.a f.b f.c f.d = false) :
    Calls Tryz.prog 57 #[v_ rb, arT f, .agg #[g.1, g.2]] w fun e w' => e = .returned (.tuple #[.pointer none, .int .i64 1]) /\ Xt w w' := by
 obtain ⟨B, hB⟩ := e_ w.heap.size;obtain ⟨wb0, wb1, hwb0, hsb0, hwb1, hsb1, HXB, HRB0, HRB1⟩ := bx2 hB #[.int .i64 f.a, .int .i64 f.b, .int .i64 f.c, .int .i64 f.d] #[.int .i64 g.1, .int .i64 g.2] 26 24;obtain ⟨⟨a0, a1, a2, a3⟩, _⟩ := jr0 HRB0.out;obtain ⟨g0, g1, _, _⟩ := zxi HRB1.out;have HVA := h_ (fun V => jb2 f.a f.b f.c f.d V);rw [hv] at HVA;clear hv;go_enter Tryz.func57, Tryz.ntmps57;go_wp2_with (first
  | (go_at_call 89; refine (HVA.out _).mono ?_; rintro e w2 ⟨rfl, hx2⟩; have HX2 := h_ hx2.xt; obtain ⟨⟨e0, e1, e2, e3⟩, _⟩ := jr0 (rowX HX2.out HRB0.out); obtain ⟨h0, h1, _, _⟩ := zxi (rowX HX2.out HRB1.out); clear hx2))
 go_ret2
 exact ⟨rfl, HXB.out.trans HX2.out⟩
theorem yh8 (f : ArT) (g : Ad) (w : World) :
    Calls Tryz.prog 57 #[.pointer none, arT f, .agg #[g.1, g.2]] w fun e w' => e = .returned (.tuple #[.pointer none, .int .i64 1]) /\ Xt w w' := by
 obtain ⟨B, hB⟩ := e_ w.heap.size;obtain ⟨wb0, wb1, hwb0, hsb0, hwb1, hsb1, HXB, HRB0, HRB1⟩ := bx2 hB #[.int .i64 f.a, .int .i64 f.b, .int .i64 f.c, .int .i64 f.d] #[.int .i64 g.1, .int .i64 g.2] 26 24;obtain ⟨⟨a0, a1, a2, a3⟩, _⟩ := jr0 HRB0.out;obtain ⟨g0, g1, _, _⟩ := zxi HRB1.out;obtain ⟨vb, hvb⟩ := e_ (ygU f.a f.b f.c f.d);have HVA := h_ (fun V => jb2 f.a f.b f.c f.d V);rw [hvb] at HVA;clear hvb;go_enter Tryz.func57, Tryz.ntmps57;go_wp2_with (first
  | (go_at_call 89; refine (HVA.out _).mono ?_; rintro e w2 ⟨rfl, hx2⟩; have HX2 := h_ hx2.xt; obtain ⟨⟨e0, e1, e2, e3⟩, _⟩ := jr0 (rowX HX2.out HRB0.out); obtain ⟨h0, h1, _, _⟩ := zxi (rowX HX2.out HRB1.out); clear hx2))
 go_ret2
 exact ⟨rfl, HXB.out.trans HX2.out⟩
theorem y3w (f : ArT) (g : Ad) (rb : Nat) (w : World) (hv : ygU f.a f.b f.c f.d = false) :
    Calls Tryz.prog 59 #[v_ rb, arT f, .agg #[g.1, g.2]] w fun e w' => e = .returned (.tuple #[.pointer none, .int .i64 1]) /\ Xt w w' := by
 obtain ⟨B, hB⟩ := e_ w.heap.size;obtain ⟨wb0, wb1, hwb0, hsb0, hwb1, hsb1, HXB, HRB0, HRB1⟩ := bx2 hB #[.int .i64 f.a, .int .i64 f.b, .int .i64 f.c, .int .i64 f.d] #[.int .i64 g.1, .int .i64 g.2] 26 24;obtain ⟨⟨a0, a1, a2, a3⟩, _⟩ := jr0 HRB0.out;obtain ⟨g0, g1, _, _⟩ := zxi HRB1.out;have HVA := h_ (fun V => jb2 f.a f.b f.c f.d V);rw [hv] at HVA;clear hv;go_enter Tryz.func59, Tryz.ntmps59;go_wp2_with (first
  | (go_at_call 89; refine (HVA.out _).mono ?_; rintro e w2 ⟨rfl, hx2⟩; have HX2 := h_ hx2.xt; obtain ⟨⟨e0, e1, e2, e3⟩, _⟩ := jr0 (rowX HX2.out HRB0.out); obtain ⟨h0, h1, _, _⟩ := zxi (rowX HX2.out HRB1.out); clear hx2))
 go_ret2
 exact ⟨rfl, HXB.out.trans HX2.out⟩
theorem jCm (f : ArT) (g : Ad) (w : World) :
    Calls Tryz.prog 59 #[.pointer none, arT f, .agg #[g.1, g.2]] w fun e w' => e = .returned (.tuple #[.pointer none, .int .i64 1]) /\ Xt w w' := by
 obtain ⟨B, hB⟩ := e_ w.heap.size;obtain ⟨wb0, wb1, hwb0, hsb0, hwb1, hsb1, HXB, HRB0, HRB1⟩ := bx2 hB #[.int .i64 f.a, .int .i64 f.b, .int .i64 f.c, .int .i64 f.d] #[.int .i64 g.1, .int .i64 g.2] 26 24;obtain ⟨⟨a0, a1, a2, a3⟩, _⟩ := jr0 HRB0.out;obtain ⟨g0, g1, _, _⟩ := zxi HRB1.out;obtain ⟨vb, hvb⟩ := e_ (ygU f.a f.b f.c f.d);have HVA := h_ (fun V => jb2 f.a f.b f.c f.d V);rw [hvb] at HVA;clear hvb;go_enter Tryz.func59, Tryz.ntmps59;go_wp2_with (first
  | (go_at_call 89; refine (HVA.out _).mono ?_; rintro e w2 ⟨rfl, hx2⟩; have HX2 := h_ hx2.xt; obtain ⟨⟨e0, e1, e2, e3⟩, _⟩ := jr0 (rowX HX2.out HRB0.out); obtain ⟨h0, h1, _, _⟩ := zxi (rowX HX2.out HRB1.out); clear hx2))
 go_ret2
 exact ⟨rfl, HXB.out.trans HX2.out⟩
theorem jp6 (f : ArT) (g : Ad) (rb : Nat) (w : World) (hv : ygU f.a f.b f.c f.d = false) :
    Calls Tryz.prog 58 #[v_ rb, .agg #[g.1, g.2], arT f] w fun e w' => e = .returned (.tuple #[.pointer none, .int .i64 1]) /\ Xt w w' := by
 obtain ⟨B, hB⟩ := e_ w.heap.size;obtain ⟨wb0, wb1, hwb0, hsb0, hwb1, hsb1, HXB, HRB0, HRB1⟩ := bx2 hB #[.int .i64 g.1, .int .i64 g.2] #[.int .i64 f.a, .int .i64 f.b, .int .i64 f.c, .int .i64 f.d] 24 26;obtain ⟨g0, g1, _, _⟩ := zxi HRB0.out;obtain ⟨⟨a0, a1, a2, a3⟩, _⟩ := jr0 HRB1.out;have HVA := h_ (fun V => jb2 f.a f.b f.c f.d V);rw [hv] at HVA;clear hv;go_enter Tryz.func58, Tryz.ntmps58;go_wp2_with (first
  | (go_at_call 89; refine (HVA.out _).mono ?_; rintro e w2 ⟨rfl, hx2⟩; have HX2 := h_ hx2.xt; obtain ⟨h0, h1, _, _⟩ := zxi (rowX HX2.out HRB0.out); obtain ⟨⟨e0, e1, e2, e3⟩, _⟩ := jr0 (rowX HX2.out HRB1.out); clear hx2))
 go_ret2
 exact ⟨rfl, HXB.out.trans HX2.out⟩
theorem z5E (f : ArT) (g : Ad) (w : World) :
    Calls Tryz.prog 58 #[.pointer none, .agg #[g.1, g.2], arT f] w fun e w' => e = .returned (.tuple #[.pointer none, .int .i64 1]) /\ Xt w w' := by
 obtain ⟨B, hB⟩ := e_ w.heap.size;obtain ⟨wb0, wb1, hwb0, hsb0, hwb1, hsb1, HXB, HRB0, HRB1⟩ := bx2 hB #[.int .i64 g.1, .int .i64 g.2] #[.int .i64 f.a, .int .i64 f.b, .int .i64 f.c, .int .i64 f.d] 24 26;obtain ⟨g0, g1, _, _⟩ := zxi HRB0.out;obtain ⟨⟨a0, a1, a2, a3⟩, _⟩ := jr0 HRB1.out;obtain ⟨vb, hvb⟩ := e_ (ygU f.a f.b f.c f.d);have HVA := h_ (fun V => jb2 f.a f.b f.c f.d V);rw [hvb] at HVA;clear hvb;go_enter Tryz.func58, Tryz.ntmps58;go_wp2_with (first
  | (go_at_call 89; refine (HVA.out _).mono ?_; rintro e w2 ⟨rfl, hx2⟩; have HX2 := h_ hx2.xt; obtain ⟨h0, h1, _, _⟩ := zxi (rowX HX2.out HRB0.out); obtain ⟨⟨e0, e1, e2, e3⟩, _⟩ := jr0 (rowX HX2.out HRB1.out); clear hx2))
 go_ret2
 exact ⟨rfl, HXB.out.trans HX2.out⟩
theorem jV7 (f : ArT) (rb : Nat) (w : World) (hv : ygU f.a f.b f.c f.d = false) :
    Calls Tryz.prog 60 #[v_ rb, arT f] w fun e w' => e = .returned (.tuple #[.pointer none, .int .i64 1]) /\ Xt w w' := by
 obtain ⟨B, hB⟩ := e_ w.heap.size;obtain ⟨wb0, hwb0⟩ := e_ (w.alloc (.cells #[f.a, f.b, f.c, f.d] 26));have hsb0 : wb0.heap.size = B + 1 := (by rw [<- hwb0, <- hB]; simp);have HXB : Hid (Xt w wb0) := (by unfold Hid; rw [<- hwb0]; exact ((Xt.refl w).alloc _));have HRB0 : Hid (r_ wb0 B #[f.a, f.b, f.c, f.d] 26) := (by unfold Hid; rw [<- hwb0, <- hB]; exact (a_ _ _).1);obtain ⟨⟨a0, a1, a2, a3⟩, _⟩ := jr0 HRB0.out;have HVA := h_ (fun V => jb2 f.a f.b f.c f.d V);rw [hv] at HVA;clear hv;go_enter Tryz.func60, Tryz.ntmps60
 go_wp2_with (first
  | (go_at_call 89; refine (HVA.out _).mono ?_; rintro e w2 ⟨rfl, hx2⟩; have HX2 := h_ hx2.xt; obtain ⟨⟨e0, e1, e2, e3⟩, _⟩ := jr0 (rowX HX2.out HRB0.out); clear hx2))
 go_ret2
 exact ⟨rfl, HXB.out.trans HX2.out⟩
theorem jAe (f : ArT) (w : World) :
    Calls Tryz.prog 60 #[.pointer none, arT f] w fun e w' => e = .returned (.tuple #[.pointer none, .int .i64 1]) /\ Xt w w' := by
 obtain ⟨B, hB⟩ := e_ w.heap.size;obtain ⟨wb0, hwb0⟩ := e_ (w.alloc (.cells #[f.a, f.b, f.c, f.d] 26));have hsb0 : wb0.heap.size = B + 1 := (by rw [<- hwb0, <- hB]; simp);have HXB : Hid (Xt w wb0) := (by unfold Hid; rw [<- hwb0]; exact ((Xt.refl w).alloc _));have HRB0 : Hid (r_ wb0 B #[f.a, f.b, f.c, f.d] 26) := (by unfold Hid; rw [<- hwb0, <- hB]; exact (a_ _ _).1);obtain ⟨⟨a0, a1, a2, a3⟩, _⟩ := jr0 HRB0.out;obtain ⟨vb, hvb⟩ := e_ (ygU f.a f.b f.c f.d);have HVA := h_ (fun V => jb2 f.a f.b f.c f.d V)
 rw [hvb] at HVA;clear hvb;go_enter Tryz.func60, Tryz.ntmps60;go_wp2_with (first
  | (go_at_call 89; refine (HVA.out _).mono ?_; rintro e w2 ⟨rfl, hx2⟩; have HX2 := h_ hx2.xt; obtain ⟨⟨e0, e1, e2, e3⟩, _⟩ := jr0 (rowX HX2.out HRB0.out); clear hx2))
 go_ret2
 exact ⟨rfl, HXB.out.trans HX2.out⟩
theorem z0u (f : ArT) (g : Ad) (rb : Nat) (w : World) (hv : ygU f.a f.b f.c f.d = true) (hv1 : (y8L g.1 g.2 && y8L (zyU f g).1 (zyU f g).2) = false) :
    Calls Tryz.prog 57 #[v_ rb, arT f, .agg #[g.1, g.2]] w fun e w' => e = .returned (.tuple #[.pointer none, .int .i64 20]) /\ Xt w w' := by
 obtain ⟨B, hB⟩ := e_ w.heap.size;obtain ⟨wb0, wb1, hwb0, hsb0, hwb1, hsb1, HXB, HRB0, HRB1⟩ := bx2 hB #[.int .i64 f.a, .int .i64 f.b, .int .i64 f.c, .int .i64 f.d] #[.int .i64 g.1, .int .i64 g.2] 26 24;obtain ⟨⟨a0, a1, a2, a3⟩, _⟩ := jr0 HRB0.out;obtain ⟨g0, g1, _, _⟩ := zxi HRB1.out;have HVA := h_ (fun V => jb2 f.a f.b f.c f.d V);rw [hv] at HVA;have HGO := h_ (fun V => zRO f g V);rw [hv1] at HGO;clear hv hv1;go_enter Tryz.func57, Tryz.ntmps57;go_wp2_with (first
  | (go_at_call 89; refine (HVA.out _).mono ?_; rintro e w2 ⟨rfl, hx2⟩; have HX2 := h_ hx2.xt; obtain ⟨⟨e0, e1, e2, e3⟩, _⟩ := jr0 (rowX HX2.out HRB0.out); obtain ⟨h0, h1, _, _⟩ := zxi (rowX HX2.out HRB1.out); clear hx2)
  | (go_at_call 90; refine (HGO.out _).mono ?_; rintro e w3 ⟨⟨z, rfl, _⟩, hx3⟩; have HX3 := h_ hx3; clear hx3))
 go_ret2
 exact ⟨rfl, ((HXB.out.trans HX2.out).trans HX3.out).alloc _⟩
theorem y0q (f : ArT) (g : Ad) (rb : Nat) (w : World) (hv : ygU f.a f.b f.c f.d = true) (hv1 : (y8L g.1 g.2 && y8L (zyU f g).1 (zyU f g).2) = false) :
    Calls Tryz.prog 59 #[v_ rb, arT f, .agg #[g.1, g.2]] w fun e w' => e = .returned (.tuple #[.pointer none, .int .i64 20]) /\ Xt w w' := by
 obtain ⟨B, hB⟩ := e_ w.heap.size;obtain ⟨wb0, wb1, hwb0, hsb0, hwb1, hsb1, HXB, HRB0, HRB1⟩ := bx2 hB #[.int .i64 f.a, .int .i64 f.b, .int .i64 f.c, .int .i64 f.d] #[.int .i64 g.1, .int .i64 g.2] 26 24;obtain ⟨⟨a0, a1, a2, a3⟩, _⟩ := jr0 HRB0.out;obtain ⟨g0, g1, _, _⟩ := zxi HRB1.out;have HVA := h_ (fun V => jb2 f.a f.b f.c f.d V);rw [hv] at HVA;have HGO := h_ (fun V => zRO f g V);rw [hv1] at HGO;clear hv hv1;go_enter Tryz.func59, Tryz.ntmps59;go_wp2_with (first
  | (go_at_call 89; refine (HVA.out _).mono ?_; rintro e w2 ⟨rfl, hx2⟩; have HX2 := h_ hx2.xt; obtain ⟨⟨e0, e1, e2, e3⟩, _⟩ := jr0 (rowX HX2.out HRB0.out); obtain ⟨h0, h1, _, _⟩ := zxi (rowX HX2.out HRB1.out); clear hx2)
  | (go_at_call 90; refine (HGO.out _).mono ?_; rintro e w3 ⟨⟨z, rfl, _⟩, hx3⟩; have HX3 := h_ hx3; clear hx3))
 go_ret2
 exact ⟨rfl, ((HXB.out.trans HX2.out).trans HX3.out).alloc _⟩
theorem yun (f : ArT) (g : Ad) (rb : Nat) (w : World) (hv : ygU f.a f.b f.c f.d = true) (hv1 : y8L g.1 g.2 = false) :
    Calls Tryz.prog 58 #[v_ rb, .agg #[g.1, g.2], arT f] w fun e w' => e = .returned (.tuple #[.pointer none, .int .i64 20]) /\ Xt w w' := by
 obtain ⟨B, hB⟩ := e_ w.heap.size;obtain ⟨wb0, wb1, hwb0, hsb0, hwb1, hsb1, HXB, HRB0, HRB1⟩ := bx2 hB #[.int .i64 g.1, .int .i64 g.2] #[.int .i64 f.a, .int .i64 f.b, .int .i64 f.c, .int .i64 f.d] 24 26;obtain ⟨g0, g1, _, _⟩ := zxi HRB0.out;obtain ⟨⟨a0, a1, a2, a3⟩, _⟩ := jr0 HRB1.out;have HVA := h_ (fun V => jb2 f.a f.b f.c f.d V);rw [hv] at HVA;have HVB := h_ (fun V => jlf g.1 g.2 V);rw [hv1] at HVB;clear hv hv1;go_enter Tryz.func58, Tryz.ntmps58;go_wp2_with (first
  | (go_at_call 89; refine (HVA.out _).mono ?_; rintro e w2 ⟨rfl, hx2⟩; have HX2 := h_ hx2.xt; obtain ⟨h0, h1, _, _⟩ := zxi (rowX HX2.out HRB0.out); obtain ⟨⟨e0, e1, e2, e3⟩, _⟩ := jr0 (rowX HX2.out HRB1.out); clear hx2)
  | (go_at_call 65; refine (HVB.out _).mono ?_; rintro e w3 ⟨rfl, hx3⟩; have HX3 : Hid (Xt w2 w3) := (by unfold Hid; rw [hx3]; exact (Xt.refl _).alloc _); clear hx3))
 go_ret2
 exact ⟨rfl, (HXB.out.trans HX2.out).trans HX3.out⟩
theorem zPk (f : ArT) (rb : Nat) (l : List PI) (w : World) (h : DG w rb l) (hO : GOk (pis l)) : Calls Tryz.prog 60 #[v_ rb, arT f] w (DocR (zpf f (pis l)) w) := by
 unfold zpf;cases hv : ygU f.a f.b f.c f.d
 . simp only [if_true];refine (jV7 f rb w hv).mono ?_;rintro e w' ⟨rfl, hx⟩;exact ⟨hx, Or.inl ⟨rfl, rfl⟩⟩
 simp only [Bool.true_eq_false, if_false];obtain ⟨B, hB⟩ := e_ w.heap.size;obtain ⟨wb0, hwb0⟩ := e_ (w.alloc (.cells #[f.a, f.b, f.c, f.d] 26));have hsb0 : wb0.heap.size = B + 1 := (by rw [<- hwb0, <- hB]; simp);have HXB : Hid (Xt w wb0) := (by unfold Hid; rw [<- hwb0]; exact ((Xt.refl w).alloc _));have HRB0 : Hid (r_ wb0 B #[f.a, f.b, f.c, f.d] 26) := (by unfold Hid; rw [<- hwb0, <- hB]; exact (a_ _ _).1);obtain ⟨⟨a0, a1, a2, a3⟩, _⟩ := jr0 HRB0.out;have HVA := h_ (fun V => jb2 f.a f.b f.c f.d V);rw [hv] at HVA
 have H := h_ h;have HWO := h_ (fun V (hx : Xt w V) => zlk f rb l V (h.xt hx));have HCL := h_ (yaj hv hO);clear hv h hO;go_enter Tryz.func60, Tryz.ntmps60;go_wp2_with (first
  | (go_at_call 89; refine (HVA.out _).mono ?_; rintro e w2 ⟨rfl, hx2⟩; have HX2 := h_ (HXB.out.trans hx2.xt); obtain ⟨⟨e0, e1, e2, e3⟩, _⟩ := jr0 (rowX hx2.xt HRB0.out); clear hx2)
  | (go_at_call 91; refine (HWO.out _ HX2.out).mono ?_; rintro e w3 ⟨ob, rfl, hd⟩; have HD := h_ hd; clear hd))
 go_ret2
 obtain ⟨l', q1, q2, q3, q4⟩ := HD.out;exact ⟨HX2.out.trans q4, Or.inr ⟨ob, l', rfl, q1, by rw [q2, HCL.out], by have := HX2.out.size; omega⟩⟩
theorem cp_41 {P : PG} {y : Ad} {c : ContT} {cc rr : Int} (hv : y8L y.1 y.2 = true) (h1 : yQy c = true) (h2 : (c.kind == 0) = false) (h : jJz P y (shC cc rr (jNS c)) ≠ 0) : jJz P y (shC cc rr (jNS c)) = 41 := by
 rw [(jgF cc rr hv h1 h2).1] at h ⊢;split at h
 . rename_i e; rw [if_pos e]
 . exact absurd rfl h
theorem jhE (f : ArT) (g : Ad) (rb : Nat) (l : List PI) (w : World) (h : DG w rb l) (hO : GOk (pis l)) (hv : ygU f.a f.b f.c f.d = true) (hv1 : (y8L g.1 g.2 && y8L (zyU f g).1 (zyU f g).2) = true) :
    Calls Tryz.prog 57 #[v_ rb, arT f, .agg #[g.1, g.2]] w (DocR (yuv (jZJ (movG (z4o f g) (jLL f g)) (z4o f g) (jLL f g) (zRj (zJt f g) (pis l)) (inP f (pis l)))) w) := by
 obtain ⟨B, hB⟩ := e_ w.heap.size;obtain ⟨wb0, wb1, hwb0, hsb0, hwb1, hsb1, HXB, HRB0, HRB1⟩ := bx2 hB #[.int .i64 f.a, .int .i64 f.b, .int .i64 f.c, .int .i64 f.d] #[.int .i64 g.1, .int .i64 g.2] 26 24;obtain ⟨⟨a0, a1, a2, a3⟩, _⟩ := jr0 HRB0.out;obtain ⟨g0, g1, _, _⟩ := zxi HRB1.out;obtain ⟨vv, hc, hP⟩ := h.cell;obtain ⟨la, lc, rfl, hlc, hlc2⟩ := hP.shape;have H := h_ h;have HO := h_ hO;have HVA := h_ (fun V => jb2 f.a f.b f.c f.d V);rw [hv] at HVA;have HGO := h_ (fun V => zRO f g V);rw [hv1] at HGO;have HIN := h_ (zFL hv hv1);have HHI := h_ (jlE hv);have HCL := h_ (yaj (zQ4 hv1 hv) hO)
 have HWO := h_ (fun V (hx : Xt w V) => zlk (zJt f g) rb l V (h.xt hx));obtain ⟨cc, hcc⟩ := e_ (z4o f g);obtain ⟨rr, hrr⟩ := e_ (jLL f g);have HMV := h_ (far_mov f g);have HMF := h_ (mov_far f g);rw [hcc, hrr] at HMV HMF HIN ⊢;obtain ⟨ans, hans⟩ := e_ (yuv (jZJ (movG cc rr) cc rr (zRj (zJt f g) (pis l)) (inP f (pis l))));rw [hans];have HANS := h_ hans;have HP := h_ hP;have HC := h_ hc;clear h hO hv hv1 hcc hrr hc hP hans;go_enter Tryz.func57, Tryz.ntmps57;go_upto_region 5 with (first
  | (go_at_call 89; refine (HVA.out _).mono ?_; rintro e w2 ⟨rfl, hx2⟩; have HX2 := h_ hx2.xt; obtain ⟨⟨e0, e1, e2, e3⟩, _⟩ := jr0 (rowX hx2.xt HRB0.out); obtain ⟨h0, h1, _, _⟩ := zxi (rowX hx2.xt HRB1.out); clear hx2)
  | (go_at_call 90; refine (HGO.out _).mono ?_; rintro e w3 ⟨⟨z, rfl, hz⟩, hx3⟩; have HX3 := h_ hx3; have HZQ := h_ hz; clear hz hx3))
 have hz := HZQ.out (by trivial);subst hz;obtain ⟨GB, hGB⟩ := e_ w3.heap.size;obtain ⟨gl, hgl⟩ := e_ (zJt f g);rw [hgl] at HCL HWO HANS;simp only [hgl, hGB];obtain ⟨w4, hw4⟩ := e_ (w3.alloc (.cells #[gl.a, gl.b, gl.c, gl.d] 26));simp only [hw4];have HR4 : Hid (r_ w4 GB #[gl.a, gl.b, gl.c, gl.d] 26) := (by unfold Hid; rw [<- hw4, <- hGB]; exact (a_ w3 _).1);have HX4 : Hid (Xt wb1 w4) := (by unfold Hid; rw [<- hw4]; exact (HX2.out.trans HX3.out).alloc _);have HGL := h_ hgl;obtain ⟨⟨m0, m1, m2, m3⟩, _⟩ := jr0 HR4.out
 clear hw4 hGB hgl e0 e1 e2 e3 h0 h1 a0 a1 a2 a3 g0 g1;go_upto_region 8 with (first
  | (go_at_call 91; refine (HWO.out _ (HXB.out.trans HX4.out)).mono ?_; rintro e w5 ⟨OB, rfl, hd⟩; have HDO := h_ hd; clear hd))
 obtain ⟨l0, q1, q2, q3, q4⟩ := HDO.out;have HD0 := h_ q1;have HL0 : Hid (pis l0 = zRj gl (pis l)) := h_ (q2.trans HCL.out);have HX5 := h_ q4;have HXW5 := h_ ((HXB.out.trans HX4.out).trans q4);have hOB : w4.heap.size <= OB := q3;clear q1 q2 q3 q4 HDO m0 m1 m2 m3;have HF : Hid (∀ V, Xt w4 V -> c_ V rb 0 (.slice la l.length lc) /\ c_ V B 0 f.a /\ c_ V B 1 f.b /\ c_ V B 2 f.c /\ c_ V B 3 f.d /\ c_ V (B + 1) 0 g.1 /\ c_ V (B + 1) 1 g.2) := h_ fun V hV => by
  obtain ⟨⟨u0, u1, u2, u3⟩, _⟩ := jr0 (rowX (HX4.out.trans hV) HRB0.out);obtain ⟨y0, y1, _, _⟩ := zxi (rowX (HX4.out.trans hV) HRB1.out);exact ⟨(((HXB.out.trans HX4.out).trans hV).cellsIn) _ _ _ HC.out, u0, u1, u2, u3, y0, y1⟩
 go_wp2_with fail
 go_loopw [12] (fun s12 wr => ∃ (i : Nat) (l1 : List PI), i <= l.length /\ s12 = .int .i64 i /\ Hid (DG wr OB l1) /\ Hid (jZJ (movG cc rr) cc rr (zRj gl (pis l)) (inP f (pis (l.take i))) = some (pis l1)) /\ Hid (Xt w4 wr)) (fun s12 _ => l.length - (intOf s12).toNat)
 case atStart => exact ⟨0, l0, Nat.zero_le _, rfl, HD0, by unfold Hid; rw [HL0.out]; rfl, HX5⟩
 case round =>
  obtain ⟨i, l1, hi, rfl, HD, HL, HX⟩ := hrel;have HXW := h_ ((HXB.out.trans HX4.out).trans HX.out);obtain ⟨kc, _⟩ := HF.out wr HX.out;by_cases hlt : i < l.length
  . have hki : (i : Int) < (l.length : Int) := (by omega);obtain ⟨x, hx⟩ : ∃ x, l[i]? = some x := ⟨l[i], j_ hlt⟩;obtain ⟨b, off, rfl, hrng⟩ := HP.out.row hx;obtain ⟨b', off', e', _, _, _, hok, n0, hin⟩ := HP.out.at hx;clear e';have HXI := h_ hx;have HRNG := h_ (jdA HXW.out hrng);have hmem := m_ hx;have hpm : (x.a, x.c) ∈ pis l := List.mem_map.2 ⟨x, hmem, rfl⟩;obtain ⟨v1, v2, v3, v4, _⟩ := HO.out.each _ hpm;obtain ⟨wZ, wR, hwZ, hwR, hz, hB2, hxR, hsR⟩ := boxP wr x.a x.c (.slice x.p x.c.t.args.length x.cap);obtain ⟨X, hX⟩ := e_ wr.heap.size;rw [hX] at hwR hz hB2;have HWR := h_ hwR;have HZ := h_ hz
    have HBX := h_ hB2;have HXR := h_ hxR;obtain ⟨vb, hvb⟩ := e_ (inA f x.a);have HHAS := h_ (fun V => jOD f x.a V);rw [HHI.out, hvb] at HHAS;have HVB := h_ hvb;obtain ⟨y, hy⟩ := e_ (movG cc rr x.a);obtain ⟨he1, he2⟩ := HMV.out x.a;obtain ⟨hf1, hf2⟩ := HMF.out x.a;rw [hy] at he1 he2 hf1 hf2;have hvy : inA f x.a = true -> y8L y.1 y.2 = true := fun h => by rw [<- hy]; exact HIN.out x.a h
    have HVY := h_ hvy;have HY := h_ hy;have hS := shD_eq (dc := cc) (dr := rr) v4;obtain ⟨C, hC⟩ := e_ (shC cc rr (jNS x.c));have HPU := h_ (fun V (hX : Xt wr V) => jYq n0 OB l1 x.c x.p x.cap x.a y cc rr V (HD.out.xt hX) hok (H.out.small x hmem) (hin.xt (HXW.out.trans hX)) v2 v4 hf1 hf2);obtain ⟨ec, hec⟩ := e_ (jJz (pis l1) y C);unfold ykf at HPU;rw [hS, hC, hec] at HPU;have HCE := h_ hC;have HEC := h_ hec;have H41 : Hid (inA f x.a = true -> ec ≠ 0 -> ec = 41) := h_ fun h hne => by
     rw [<- hec, <- hC] at hne ⊢;exact cp_41 (hvy h) v2 v3 hne
    have hstep : inA f x.a = true -> jZJ (movG cc rr) cc rr (zRj gl (pis l)) (inP f (pis (l.take (i + 1)))) = y1P (some (pis l1)) y C := fun h => by
     rw [j8R hx, if_pos h, zhS, HL.out];simp only;rw [hy, hC]
    have HSTEP := h_ hstep;have hHF := HF.out wR (HX.out.trans hxR);obtain ⟨kc2, u0, u1, u2, u3, y0, y1⟩ := hHF;obtain ⟨p0, p1, p2, _, _⟩ := hB2.cells;have hOBX : OB < X := (by have := HD.out.lt; omega);clear hx hrng hok hin hmem hpm v1 v2 v3 v4 hwR hz hB2 hxR hsR hvb hy hvy hS hC hec hstep hf1 hf2;go_upto_region 12 with (first
     | (refine u_ (P := Tryz.prog) rfl 70 _ rfl b (off + i * 23) rfl (putR x.a x.c (.slice x.p x.c.t.args.length x.cap)).toList _ HRNG.out Tryz.underlying70 rfl (by kernel_rfl) ?_)
     | (rw [hwZ])
     | (rw [hX])
     | (refine w_ (P := Tryz.prog) rfl 70 _ _ rfl X (putR x.a x.c (.slice x.p x.c.t.args.length x.cap)) rfl rfl 70 _ HZ.out (by kernel_rfl) rfl (yG9 _ _ _ rfl) ?_; rw [HWR.out]))
    cases vb
    . go_wp2_with (first
       | (go_at_call 92; refine (HHAS.out _).mono ?_; rintro e w7 ⟨rfl, hx7⟩; have HX7 := h_ (HXR.out.trans hx7); clear hx7))
      go_roundw
      case rel => exact ⟨i + 1, l1, by omega, by go_num, HD.out.xt HX7.out, by unfold Hid; rw [j8R HXI.out, if_neg (by rw [HVB.out]; simp), List.append_nil]; exact HL.out, HX.out.trans HX7.out⟩
      case measure => simp [intOf]; omega
    . have hcv : Value.agg (yQx x.c (.slice x.p x.c.t.args.length x.cap)).toArray = jEC x.c x.p x.c.t.args.length x.cap := rfl;by_cases hec0 : ec = 0
      . subst hec0;go_wp2_with (first
         | (go_at_call 92; refine (HHAS.out _).mono ?_; rintro e w7 ⟨rfl, hx7⟩; have HX7 := h_ (HXR.out.trans hx7); have HB7 := h_ (HBX.out.xt hx7); obtain ⟨s0, s1, s2, _, _⟩ := HB7.out.cells; have HRC := h_ HB7.out.rngC; obtain ⟨kc7, z0, z1, z2, z3, t0, t1⟩ := HF.out w7 (HX.out.trans HX7.out); clear hx7)
         | (refine u_ (P := Tryz.prog) rfl 51 _ rfl X 2 rfl (yQx x.c (.slice x.p x.c.t.args.length x.cap)) _ HRC.out Tryz.underlying51 rfl (by kernel_rfl) ?_; rw [hcv])
         | (go_at_call 93; refine (HPU.out _ HX7.out).mono ?_; rintro e w8 ⟨l8, rfl, hD8, hp8, hg8⟩; have HD8 := h_ hD8; have HP8 := h_ hp8; have HX8 := h_ ((HX.out.trans HX7.out).grownB hg8 (fun q hq => by cases hq; exact hOB)); clear hD8 hp8 hg8))
        go_roundw
        case rel => exact ⟨i + 1, l8, by omega, by go_num, HD8, by unfold Hid; rw [HSTEP.out HVB.out, z2O HEC.out, HP8.out], HX8⟩
        case measure => simp [intOf]; omega
      . have hecb : (ec != 0) = true := (by simpa using hec0);have he41 : ec = 41 := H41.out HVB.out hec0;have HNO : Hid (jZJ (movG cc rr) cc rr (zRj gl (pis l)) (inP f (pis l)) = none) := h_ (by
         rw [zF8 (i + 1)];refine jvJ _ _ _ _ _ _ ?_;rw [HSTEP.out HVB.out, yuy (by rw [HEC.out]; exact hec0)])
        have HE41 := h_ he41;clear he41 hec0;go_wp2_with (first
         | (go_at_call 92; refine (HHAS.out _).mono ?_; rintro e w7 ⟨rfl, hx7⟩; have HX7 := h_ (HXR.out.trans hx7); have HB7 := h_ (HBX.out.xt hx7); obtain ⟨s0, s1, s2, _, _⟩ := HB7.out.cells; have HRC := h_ HB7.out.rngC; obtain ⟨kc7, z0, z1, z2, z3, t0, t1⟩ := HF.out w7 (HX.out.trans HX7.out); clear hx7)
         | (refine u_ (P := Tryz.prog) rfl 51 _ rfl X 2 rfl (yQx x.c (.slice x.p x.c.t.args.length x.cap)) _ HRC.out Tryz.underlying51 rfl (by kernel_rfl) ?_; rw [hcv])
         | (go_at_call 93; refine (HPU.out _ HX7.out).mono ?_; rintro e w8 ⟨l8, rfl, hD8, hp8, hg8⟩; have HX8 := h_ ((HX.out.trans HX7.out).grownB hg8 (fun q hq => by cases hq; exact hOB)); clear hD8 hp8 hg8))
        go_ret2
        rw [<- HANS.out, HNO.out, HE41.out];exact ⟨(HXB.out.trans HX4.out).trans HX8.out, Or.inl ⟨rfl, rfl⟩⟩
  . have hki : ¬ (i : Int) < (l.length : Int) := (by omega);obtain rfl : i = l.length := by omega
    have hl := HL.out;rw [List.take_length] at hl;have HLE := h_ hl;clear hl;go_wp2_with fail
    go_ret2
    rw [<- HANS.out, HLE.out];exact ⟨HXW.out, Or.inr ⟨OB, l1, rfl, HD.out, rfl, by have := (HXB.out.trans HX4.out).size; omega⟩⟩
theorem zdI (f : ArT) (g : Ad) (rb : Nat) (l : List PI) (w : World) (h : DG w rb l) (hO : GOk (pis l)) : Calls Tryz.prog 57 #[v_ rb, arT f, .agg #[g.1, g.2]] w (DocR (yts f g (pis l)) w) := by
 unfold yts;cases hv : ygU f.a f.b f.c f.d
 . simp only [if_true];refine (yni f g rb w hv).mono ?_;rintro e w' ⟨rfl, hx⟩;exact ⟨hx, Or.inl ⟨rfl, rfl⟩⟩
 simp only [Bool.true_eq_false, if_false];cases hv1 : (y8L g.1 g.2 && y8L (zyU f g).1 (zyU f g).2)
 . simp only [if_true];refine (z0u f g rb w hv hv1).mono ?_;rintro e w' ⟨rfl, hx⟩;exact ⟨hx, Or.inl ⟨rfl, rfl⟩⟩
 simp only [Bool.true_eq_false, if_false];exact jhE f g rb l w h hO hv hv1
theorem jra (f : ArT) (g : Ad) (rb : Nat) (l : List PI) (w : World) (h : DG w rb l) (hO : GOk (pis l)) (hv : ygU f.a f.b f.c f.d = true) (hv1 : (y8L g.1 g.2 && y8L (zyU f g).1 (zyU f g).2) = true) :
    Calls Tryz.prog 59 #[v_ rb, arT f, .agg #[g.1, g.2]] w (DocR (some (yan (mvC f (zJt f g) (z4o f g) (jLL f g)) (mvA f (zJt f g) (z4o f g) (jLL f g)) (pis l)), 0) w) := by
 obtain ⟨B, hB⟩ := e_ w.heap.size;obtain ⟨wb0, wb1, hwb0, hsb0, hwb1, hsb1, HXB, HRB0, HRB1⟩ := bx2 hB #[.int .i64 f.a, .int .i64 f.b, .int .i64 f.c, .int .i64 f.d] #[.int .i64 g.1, .int .i64 g.2] 26 24;obtain ⟨⟨a0, a1, a2, a3⟩, _⟩ := jr0 HRB0.out;obtain ⟨g0, g1, _, _⟩ := zxi HRB1.out;obtain ⟨vv, hc, hP⟩ := h.cell;obtain ⟨la, lc, rfl, hlc, hlc2⟩ := hP.shape;have H := h_ h;have HO := h_ hO;have HVA := h_ (fun V => jb2 f.a f.b f.c f.d V);rw [hv] at HVA;have HGO := h_ (fun V => zRO f g V);rw [hv1] at HGO;have HHI := h_ (jlE hv);have HHJ := h_ (jlE (zQ4 hv1 hv));have HVL := h_ (zQ4 hv1 hv)
 have HVV := h_ hv;obtain ⟨cc, hcc⟩ := e_ (z4o f g);obtain ⟨rr, hrr⟩ := e_ (jLL f g);have HCE : Hid (wrap64 ((zJt f g).a - f.a) = cc) := hcc;have HRE : Hid (wrap64 ((zJt f g).b - f.b) = rr) := hrr;rw [hcc, hrr];obtain ⟨gl, hgl⟩ := e_ (zJt f g);rw [hgl] at HCE HRE HHJ HVL HGO ⊢;have HFOL := h_ (fun n => yei f gl cc rr HVV.out HVL.out HCE.out HRE.out n);unfold FoIs at HFOL;obtain ⟨fin, hfin⟩ := e_ (yan (mvC f gl cc rr) (mvA f gl cc rr) (pis l));rw [hfin];have HFIN := h_ hfin;have HP := h_ hP;have HC := h_ hc;clear h hO hv hv1 hcc hrr hc hP hgl hfin;go_enter Tryz.func59, Tryz.ntmps59
 go_upto_region 5 with (first
  | (go_at_call 89; refine (HVA.out _).mono ?_; rintro e w2 ⟨rfl, hx2⟩; have HX2 := h_ hx2.xt; obtain ⟨⟨e0, e1, e2, e3⟩, _⟩ := jr0 (rowX hx2.xt HRB0.out); obtain ⟨h0, h1, _, _⟩ := zxi (rowX hx2.xt HRB1.out); clear hx2)
  | (go_at_call 90; refine (HGO.out _).mono ?_; rintro e w3 ⟨⟨z, rfl, hz⟩, hx3⟩; have HX3 := h_ hx3; have HZQ := h_ hz; clear hz hx3))
 have hz := HZQ.out (by trivial);subst hz;obtain ⟨GB, hGB⟩ := e_ w3.heap.size;simp only [hGB];obtain ⟨w4, hw4⟩ := e_ (w3.alloc (.cells #[z.a, z.b, z.c, z.d] 26));simp only [hw4];have HR4 : Hid (r_ w4 GB #[z.a, z.b, z.c, z.d] 26) := (by unfold Hid; rw [<- hw4, <- hGB]; exact (a_ w3 _).1);have HX4 : Hid (Xt wb1 w4) := (by unfold Hid; rw [<- hw4]; exact (HX2.out.trans HX3.out).alloc _);clear hw4 hGB e0 e1 e2 e3 h0 h1 a0 a1 a2 a3 g0 g1;go_upto_region 8 with fail;obtain ⟨OB, hOB0⟩ := e_ w4.heap.size
 obtain ⟨w5, hw5⟩ := e_ (w4.alloc (.cells #[.slice none 0 0] 109));simp only [hw5, hOB0];have HX5 : Hid (Xt w4 w5) := (by unfold Hid; rw [<- hw5]; exact (Xt.refl _).alloc _);have HD5 := h_ (DG.fresh hw5);rw [hOB0] at HD5;have hOB : w4.heap.size <= OB := (by omega);have hGO : GB ≠ OB := (by have := (g_ HR4.out).1; omega);have hBO : B ≠ OB := (by have := (g_ (rowX HX4.out HRB0.out)).1; omega);clear hw5 hOB0
 have HF : Hid (∀ V, Xt w4 V -> c_ V rb 0 (.slice la l.length lc) /\ c_ V B 0 f.a /\ c_ V B 1 f.b /\ c_ V B 2 f.c /\ c_ V B 3 f.d /\ c_ V GB 0 z.a /\ c_ V GB 1 z.b /\ c_ V GB 2 z.c /\ c_ V GB 3 z.d) := h_ fun V hV => by
  obtain ⟨⟨u0, u1, u2, u3⟩, _⟩ := jr0 (rowX (HX4.out.trans hV) HRB0.out);obtain ⟨⟨y0, y1, y2, y3⟩, _⟩ := jr0 (rowX hV HR4.out);exact ⟨(((HXB.out.trans HX4.out).trans hV).cellsIn) _ _ _ HC.out, u0, u1, u2, u3, y0, y1, y2, y3⟩
 go_wp2_with fail
 go_loopw [12] (fun s12 wr => ∃ (i : Nat) (l1 : List PI), i <= l.length /\ s12 = .int .i64 i /\ Hid (DG wr OB l1) /\ Hid (pis l1 = yan (mvC f z cc rr) (mvA f z cc rr) (pis (l.take i))) /\ Hid (Xt w4 wr)) (fun s12 _ => l.length - (intOf s12).toNat)
 case atStart => exact ⟨0, [], Nat.zero_le _, rfl, HD5, by unfold Hid; rfl, HX5⟩
 case round =>
  obtain ⟨i, l1, hi, rfl, HD, HL, HX⟩ := hrel;have HXW := h_ ((HXB.out.trans HX4.out).trans HX.out);obtain ⟨kc, _⟩ := HF.out wr HX.out;by_cases hlt : i < l.length
  . have hki : (i : Int) < (l.length : Int) := (by omega);obtain ⟨x, hx⟩ : ∃ x, l[i]? = some x := ⟨l[i], j_ hlt⟩;obtain ⟨b, off, rfl, hrng⟩ := HP.out.row hx;obtain ⟨b', off', e', _, _, _, hok, n0, hin⟩ := HP.out.at hx;clear e';have HXI := h_ hx;have HRNG := h_ (jdA HXW.out hrng);have hmem := m_ hx;have hpm : (x.a, x.c) ∈ pis l := List.mem_map.2 ⟨x, hmem, rfl⟩;obtain ⟨v1, v2, v3, v4, _⟩ := HO.out.each _ hpm;have HCC := h_ v4;have HOK := h_ hok;have HIN := h_ hin;have HSM := h_ (H.out.small x hmem);obtain ⟨wZ, wR, hwZ, hwR, hz, hB2, hxR, hsR⟩ := boxP wr x.a x.c (.slice x.p x.c.t.args.length x.cap)
    obtain ⟨X, hX⟩ := e_ wr.heap.size;rw [hX] at hwR hz hB2;have HWR := h_ hwR;have HZ := h_ hz;have HBX := h_ hB2;have HXR := h_ hxR;have HXS : Hid (wr.heap.size = X) := hX;obtain ⟨vf, hvf⟩ := e_ (inA f x.a);obtain ⟨vg, hvg⟩ := e_ (inA z x.a);have HHF := h_ (fun V => jOD f x.a V);rw [HHI.out, hvf] at HHF;have HHG := h_ (fun V => jOD z x.a V);rw [HHJ.out, hvg] at HHG;have HVF := h_ hvf;have HVG := h_ hvg;obtain ⟨y, hy⟩ := e_ (movG cc rr x.a);have HMO := h_ (fun V => j2f x.a f z V)
    rw [(zYf f z x.a HCE.out HRE.out).1, (zYf f z x.a HCE.out HRE.out).2, hy] at HMO;have HY := h_ hy;obtain ⟨p0, p1, p2, _, _⟩ := hB2.cells;have hOBX : OB < X := (by have := HD.out.lt; omega);have hXO : X ≠ OB := (by omega);clear hx hrng hok hin hmem hpm v1 v2 v3 v4 hwR hz hB2 hxR hsR hvf hvg hy;go_upto_region 12 with (first
     | (refine u_ (P := Tryz.prog) rfl 70 _ rfl b (off + i * 23) rfl (putR x.a x.c (.slice x.p x.c.t.args.length x.cap)).toList _ HRNG.out Tryz.underlying70 rfl (by kernel_rfl) ?_)
     | (rw [hwZ])
     | (rw [hX])
     | (refine w_ (P := Tryz.prog) rfl 70 _ _ rfl X (putR x.a x.c (.slice x.p x.c.t.args.length x.cap)) rfl rfl 70 _ HZ.out (by kernel_rfl) rfl (yG9 _ _ _ rfl) ?_; rw [HWR.out]))
    by_cases hk2 : x.c.kind = 2
    . have HK2 := h_ hk2;have hk2b : (x.c.kind == 2) = true := (by simpa using hk2);obtain ⟨T, hT⟩ := e_ (jNY (mvC f z cc rr) (mvA f z cc rr) x.c.t);have HAL := h_ (HFOL.out n0 x.c.t x.p x.cap wR HSM.out (HIN.out.xt (HXW.out.trans HXR.out)));rw [hT] at HAL;have HTT := h_ hT;have HTO : Hid (ContT.ok ⟨x.c.kind, x.c.v, T⟩) := by
       have h := yFU (cG := mvC f z cc rr) (aG := mvA f z cc rr) (jvQ HOK.out);rw [zIi HCC.out, if_pos hk2, hT] at h;exact h
      have HTS : Hid (yQE T) := by
       have h := jCt (cG := mvC f z cc rr) (aG := mvA f z cc rr) (c := jNS x.c) (jXA _ HSM.out);rw [zIi HCC.out, if_pos hk2, hT] at h;exact h
      have HRF := h_ HBX.out.rngF;have hnv : Value.agg (nodeC x.c.t (.slice x.p x.c.t.args.length x.cap)).toArray = jSk x.c.t x.p x.c.t.args.length x.cap := rfl;obtain ⟨_, k0, k1, k2, k3, k4, k5, k6, k7⟩ := HF.out wR (HX.out.trans HXR.out);have hXR2 : X < wR.heap.size := HBX.out.lt;clear hT hk2;go_upto_region 14 with (first
       | (refine u_ (P := Tryz.prog) rfl 49 _ rfl X 8 rfl (nodeC x.c.t (.slice x.p x.c.t.args.length x.cap)) _ HRF.out Tryz.underlying49 rfl (by kernel_rfl) ?_; rw [hnv])
       | (go_at_call 95; refine (HAL.out).mono ?_; rintro e w5 ⟨a2, c2, rfl, hA5, hx5⟩; have HA5 := h_ hA5; have HB5 := h_ (HBX.out.xt hx5); have HTH := h_ (HB5.out.there 8 15 (by omega)); obtain ⟨w6, hw6⟩ := e_ (w5.setCells X 8 [.int .i64 T.kind, .int .i64 T.op, .float .f64 T.x, .string T.s, .bool T.b, .int .i64 T.f, .int .i64 T.ref.a.1, .int .i64 T.ref.a.2, .bool T.ref.cf, .bool T.ref.rf, .int .i64 T.to.a.1, .int .i64 T.to.a.2, .bool T.to.cf, .bool T.to.rf, .slice a2 T.args.length c2]); have HBQ : Hid (PBox w6 X x.a ⟨x.c.kind, x.c.v, T⟩ (.slice a2 T.args.length c2)) := (by unfold Hid; rw [<- hw6]; exact HB5.out.form T (.slice a2 T.args.length c2)); have HG6 : Hid (w5.grownBy w6 (some X)) := (by unfold Hid; rw [<- hw6]; exact jRE X _ 8 w5); have HXQ : Hid (Xt wr w6) := h_ ((HXR.out.trans hx5).grownB HG6.out (fun q hq => by cases hq; have h9 := HXS.out; omega)); have HA6 := h_ (OwnIn.keep (S' := fun b => wR.heap.size <= b) (fun b hb _ => hb) (fun b hb hlt => HG6.out.block b hlt (fun e => by cases e; omega)) hA5).args; have HW6 := h_ hw6; clear hA5 hx5 hw6)
       | (refine wpList_store_mid (P := Tryz.prog) rfl 49 _ _ rfl X 8 #[.int .i64 T.kind, .int .i64 T.op, .float .f64 T.x, .string T.s, .bool T.b, .int .i64 T.f, .int .i64 T.ref.a.1, .int .i64 T.ref.a.2, .bool T.ref.cf, .bool T.ref.rf, .int .i64 T.to.a.1, .int .i64 T.to.a.2, .bool T.to.cf, .bool T.to.rf, .slice a2 T.args.length c2] rfl rfl HTH.out (by kernel_rfl) (by simp [Value.oneCell']) ?_; rw [HW6.out]))
      have HPU : Hid (∀ (y : Ad) (V : World), Xt wr V -> ∀ (hq : Xt w6 V), Calls Tryz.prog 26 #[v_ OB, .agg #[y.1, y.2], jEC ⟨x.c.kind, x.c.v, T⟩ a2 T.args.length c2] V (ykf V OB l1 y ⟨x.c.kind, x.c.v, T⟩)) := h_ fun y V hV hq => ze5 n0 OB l1 y ⟨x.c.kind, x.c.v, T⟩ a2 c2 V (HD.out.xt hV) HTO.out HTS.out (HA6.out.xt hq);have hcv : Value.agg (yQx ⟨x.c.kind, x.c.v, T⟩ (.slice a2 T.args.length c2)).toArray = jEC ⟨x.c.kind, x.c.v, T⟩ a2 T.args.length c2 := rfl;clear p0 p1 p2 k0 k1 k2 k3 k4 k5 k6 k7 hXR2;obtain ⟨s0, s1, _, _, _⟩ := HBQ.out.cells;obtain ⟨_, k0, k1, k2, k3, k4, k5, k6, k7⟩ := HF.out w6 (HX.out.trans HXQ.out);cases vf
      . have HC1 := HHF;have HC2 := HHG;cases vg
        . go_wp2_with (first
           | (go_at_call 92; refine (HC1.out _).mono ?_; clear HC1; rintro e w7 ⟨rfl, hx7⟩; have HX7 := h_ (HXQ.out.trans hx7); have HB7 := h_ (HBQ.out.xt hx7); have HQ7 := h_ hx7; obtain ⟨t0, t1, _, _, _⟩ := HB7.out.cells; obtain ⟨_, h0, h1, h2, h3, h4, h5, h6, h7⟩ := HF.out w7 (HX.out.trans HX7.out); clear hx7)
           | (go_at_call 92; refine (HC2.out _).mono ?_; clear HC2; rintro e w8 ⟨rfl, hx8⟩; have HX8 := h_ (HX7.out.trans hx8); have HB8 := h_ (HB7.out.xt hx8); have HQ8 := h_ (HQ7.out.trans hx8); obtain ⟨q0, q1, _, _, _⟩ := HB8.out.cells; have HRC := h_ HB8.out.rngC; clear hx8)
           | (refine u_ (P := Tryz.prog) rfl 51 _ rfl X 2 rfl (yQx ⟨x.c.kind, x.c.v, T⟩ (.slice a2 T.args.length c2)) _ HRC.out Tryz.underlying51 rfl (by kernel_rfl) ?_; rw [hcv])
           | (go_at_call 26; refine (HPU.out x.a _ HX8.out (HQ8.out)).mono ?_; rintro e w9 ⟨l9, rfl, hD9, hp9, hg9⟩; have HD9 := h_ hD9; have HP9 := h_ hp9; have HX9 := h_ ((HX.out.trans HX8.out).grownB hg9 (fun q hq => by cases hq; exact hOB)); clear hD9 hp9 hg9))
          go_roundw
          case rel => exact ⟨i + 1, l9, by omega, by go_num, HD9, by unfold Hid; rw [HP9.out, zer HXI.out, jon, y44, zIi HCC.out, HL.out]; simp only [mvC, HVF.out, HVG.out, Bool.false_eq_true, if_false, Bool.not_false, if_true]; rw [if_pos HK2.out, HTT.out], HX9⟩
          case measure => simp [intOf]; omega
        . go_wp2_with (first
           | (go_at_call 92; refine (HC1.out _).mono ?_; clear HC1; rintro e w7 ⟨rfl, hx7⟩; have HX7 := h_ (HXQ.out.trans hx7); have HB7 := h_ (HBQ.out.xt hx7); have HQ7 := h_ hx7; obtain ⟨t0, t1, _, _, _⟩ := HB7.out.cells; obtain ⟨_, h0, h1, h2, h3, h4, h5, h6, h7⟩ := HF.out w7 (HX.out.trans HX7.out); clear hx7)
           | (go_at_call 92; refine (HC2.out _).mono ?_; clear HC2; rintro e w8 ⟨rfl, hx8⟩; have HX8 := h_ (HX7.out.trans hx8); clear hx8))
          go_roundw
          case rel => exact ⟨i + 1, l1, by omega, by go_num, HD.out.xt HX8.out, by unfold Hid; rw [HL.out, zer HXI.out, jon, y44]; simp [mvC, HVF.out, HVG.out], HX.out.trans HX8.out⟩
          case measure => simp [intOf]; omega
      . go_upto_region 15 with (first
         | (go_at_call 92; refine (HHF.out _).mono ?_; rintro e w7 ⟨rfl, hx7⟩; have HX7 := h_ (HXQ.out.trans hx7); have HB7 := h_ (HBQ.out.xt hx7); have HQ7 := h_ hx7; clear hx7))
        have HFQ : Hid (∀ V, Wr (fun b => b = OB) w7 V -> c_ V X 0 x.a.1 /\ c_ V X 1 x.a.2 /\ c_ V B 0 f.a /\ c_ V B 1 f.b /\ c_ V B 2 f.c /\ c_ V B 3 f.d /\ c_ V GB 0 z.a /\ c_ V GB 1 z.b /\ c_ V GB 2 z.c /\ c_ V GB 3 z.d) := h_ fun V hV => by
         obtain ⟨t0, t1, _, _, _⟩ := HB7.out.cells;obtain ⟨_, h0, h1, h2, h3, h4, h5, h6, h7⟩ := HF.out w7 (HX.out.trans HX7.out);have hc : ∀ b o u, b ≠ OB -> w7.cell? ⟨b, o, none⟩ = some u -> V.cell? ⟨b, o, none⟩ = some u := fun b o u hb hu => (d_ (a := ⟨b, o, none⟩) (hV.block b (b_ _ _ hu) hb)).trans hu;exact ⟨hc _ _ _ hXO t0, hc _ _ _ hXO t1, hc _ _ _ hBO h0, hc _ _ _ hBO h1, hc _ _ _ hBO h2, hc _ _ _ hBO h3, hc _ _ _ hGO h4, hc _ _ _ hGO h5, hc _ _ _ hGO h6, hc _ _ _ hGO h7⟩
        have HFR : Hid (∀ V, Wr (fun b => b = OB) w7 V -> V.rangeAt X 2 (yQx ⟨x.c.kind, x.c.v, T⟩ (.slice a2 T.args.length c2))) := h_ fun V hV j u hu => by
         have h := HB7.out.rngC j u hu;exact (d_ (a := ⟨X, 2 + j, none⟩) (hV.block X (b_ _ _ h) hXO)).trans h
        have HS0 : Hid (Wr (fun b => b = OB) w7 w7.drew) := h_ (Wr.of_xt (Xt.refl w7).drew);refine wp_region_held_drew (S := fun V => Wr (fun b => b = OB) w7 V) (by kernel_rfl) HS0.out (fun hHeld => ?_);refine tk HFQ.out 0 ?_;refine tk HFQ.out 1 ?_;refine tk HFQ.out 2 ?_;refine tk HFQ.out 3 ?_;refine tk HFQ.out 4 ?_;refine tk HFQ.out 6 ?_;refine tkH 7 (.agg (yQx ⟨x.c.kind, x.c.v, T⟩ (.slice a2 T.args.length c2)).toArray) ?_ ?_
        . intro V hSw; exact ySb 51 _ (by rfl) X (2) (by rfl) (yQx ⟨x.c.kind, x.c.v, T⟩ (.slice a2 T.args.length c2)) _ (HFR.out V hSw) Tryz.underlying51 rfl (by kernel_rfl)
        try simp only [Act.put, nm]
        refine rdH 5 (fun K hK => ?_);go_simp;refine (HMO.out _).mono ?_;rintro e w8 ⟨rfl, hx8⟩;have HX8 := h_ (HX7.out.trans ((Xt.refl w7).drew.trans hx8));have HQ8 := h_ (HQ7.out.trans ((Xt.refl w7).drew.trans hx8));refine ko hK (Wr.of_xt ((Xt.refl w7).drew.trans hx8)) fun hHe => ?_;clear hK K hx8;refine rdH 8 (fun K hK => ?_);go_simp;refine (HPU.out y _ HX8.out (HQ8.out)).mono ?_;rintro e w9 ⟨l9, rfl, hD9, hp9, hg9⟩;have HD9 := h_ hD9;have HP9 := h_ hp9;have HX9 := h_ ((HX.out.trans HX8.out).grownB hg9 (fun q hq => by cases hq; exact hOB));refine ko hK (hHe.trans (Wr.of_grown hg9)) fun hHe2 => ?_;clear hK K hD9 hp9 hg9;refine z_ (by kernel_rfl) ?_ _
        go_wp2_with fail;go_roundw
        case rel => exact ⟨i + 1, l9, by omega, by go_num, HD9, by unfold Hid; rw [HP9.out, zer HXI.out, jon, y44, zIi HCC.out, HL.out]; simp only [mvC, HVF.out, if_true]; rw [HY.out, if_pos HK2.out, HTT.out], HX9⟩
        case measure => simp [intOf]; omega
    . have HK2 := h_ hk2;have hk2b : (x.c.kind == 2) = false := (by simpa using hk2);have HBQ := HBX;have HXQ := HXR;have HPU : Hid (∀ (y : Ad) (V : World), Xt wr V -> Calls Tryz.prog 26 #[v_ OB, .agg #[y.1, y.2], jEC x.c x.p x.c.t.args.length x.cap] V (ykf V OB l1 y x.c)) := h_ fun y V hV => ze5 n0 OB l1 y x.c x.p x.cap V (HD.out.xt hV) HOK.out HSM.out (HIN.out.xt (HXW.out.trans hV));have hcv : Value.agg (yQx x.c (.slice x.p x.c.t.args.length x.cap)).toArray = jEC x.c x.p x.c.t.args.length x.cap := rfl;clear hk2;go_upto_region 14 with fail;clear p0 p1 p2;obtain ⟨s0, s1, _, _, _⟩ := HBQ.out.cells
      obtain ⟨_, k0, k1, k2, k3, k4, k5, k6, k7⟩ := HF.out wR (HX.out.trans HXQ.out);cases vf
      . have HC1 := HHF;have HC2 := HHG;cases vg
        . go_wp2_with (first
           | (go_at_call 92; refine (HC1.out _).mono ?_; clear HC1; rintro e w7 ⟨rfl, hx7⟩; have HX7 := h_ (HXQ.out.trans hx7); have HB7 := h_ (HBQ.out.xt hx7); obtain ⟨t0, t1, _, _, _⟩ := HB7.out.cells; obtain ⟨_, h0, h1, h2, h3, h4, h5, h6, h7⟩ := HF.out w7 (HX.out.trans HX7.out); clear hx7)
           | (go_at_call 92; refine (HC2.out _).mono ?_; clear HC2; rintro e w8 ⟨rfl, hx8⟩; have HX8 := h_ (HX7.out.trans hx8); have HB8 := h_ (HB7.out.xt hx8); obtain ⟨q0, q1, _, _, _⟩ := HB8.out.cells; have HRC := h_ HB8.out.rngC; clear hx8)
           | (refine u_ (P := Tryz.prog) rfl 51 _ rfl X 2 rfl (yQx x.c (.slice x.p x.c.t.args.length x.cap)) _ HRC.out Tryz.underlying51 rfl (by kernel_rfl) ?_; rw [hcv])
           | (go_at_call 26; refine (HPU.out x.a _ (HX8.out)).mono ?_; rintro e w9 ⟨l9, rfl, hD9, hp9, hg9⟩; have HD9 := h_ hD9; have HP9 := h_ hp9; have HX9 := h_ ((HX.out.trans HX8.out).grownB hg9 (fun q hq => by cases hq; exact hOB)); clear hD9 hp9 hg9))
          go_roundw
          case rel => exact ⟨i + 1, l9, by omega, by go_num, HD9, by unfold Hid; rw [HP9.out, zer HXI.out, jon, y44, zIi HCC.out, HL.out]; simp only [mvC, HVF.out, HVG.out, Bool.false_eq_true, if_false, Bool.not_false, if_true]; rw [if_neg HK2.out], HX9⟩
          case measure => simp [intOf]; omega
        . go_wp2_with (first
           | (go_at_call 92; refine (HC1.out _).mono ?_; clear HC1; rintro e w7 ⟨rfl, hx7⟩; have HX7 := h_ (HXQ.out.trans hx7); have HB7 := h_ (HBQ.out.xt hx7); obtain ⟨t0, t1, _, _, _⟩ := HB7.out.cells; obtain ⟨_, h0, h1, h2, h3, h4, h5, h6, h7⟩ := HF.out w7 (HX.out.trans HX7.out); clear hx7)
           | (go_at_call 92; refine (HC2.out _).mono ?_; clear HC2; rintro e w8 ⟨rfl, hx8⟩; have HX8 := h_ (HX7.out.trans hx8); clear hx8))
          go_roundw
          case rel => exact ⟨i + 1, l1, by omega, by go_num, HD.out.xt HX8.out, by unfold Hid; rw [HL.out, zer HXI.out, jon, y44]; simp [mvC, HVF.out, HVG.out], HX.out.trans HX8.out⟩
          case measure => simp [intOf]; omega
      . go_upto_region 15 with (first
         | (go_at_call 92; refine (HHF.out _).mono ?_; rintro e w7 ⟨rfl, hx7⟩; have HX7 := h_ (HXQ.out.trans hx7); have HB7 := h_ (HBQ.out.xt hx7); clear hx7))
        have HFQ : Hid (∀ V, Wr (fun b => b = OB) w7 V -> c_ V X 0 x.a.1 /\ c_ V X 1 x.a.2 /\ c_ V B 0 f.a /\ c_ V B 1 f.b /\ c_ V B 2 f.c /\ c_ V B 3 f.d /\ c_ V GB 0 z.a /\ c_ V GB 1 z.b /\ c_ V GB 2 z.c /\ c_ V GB 3 z.d) := h_ fun V hV => by
         obtain ⟨t0, t1, _, _, _⟩ := HB7.out.cells;obtain ⟨_, h0, h1, h2, h3, h4, h5, h6, h7⟩ := HF.out w7 (HX.out.trans HX7.out);have hc : ∀ b o u, b ≠ OB -> w7.cell? ⟨b, o, none⟩ = some u -> V.cell? ⟨b, o, none⟩ = some u := fun b o u hb hu => (d_ (a := ⟨b, o, none⟩) (hV.block b (b_ _ _ hu) hb)).trans hu;exact ⟨hc _ _ _ hXO t0, hc _ _ _ hXO t1, hc _ _ _ hBO h0, hc _ _ _ hBO h1, hc _ _ _ hBO h2, hc _ _ _ hBO h3, hc _ _ _ hGO h4, hc _ _ _ hGO h5, hc _ _ _ hGO h6, hc _ _ _ hGO h7⟩
        have HFR : Hid (∀ V, Wr (fun b => b = OB) w7 V -> V.rangeAt X 2 (yQx x.c (.slice x.p x.c.t.args.length x.cap))) := h_ fun V hV j u hu => by
         have h := HB7.out.rngC j u hu;exact (d_ (a := ⟨X, 2 + j, none⟩) (hV.block X (b_ _ _ h) hXO)).trans h
        have HS0 : Hid (Wr (fun b => b = OB) w7 w7.drew) := h_ (Wr.of_xt (Xt.refl w7).drew);refine wp_region_held_drew (S := fun V => Wr (fun b => b = OB) w7 V) (by kernel_rfl) HS0.out (fun hHeld => ?_);refine tk HFQ.out 0 ?_;refine tk HFQ.out 1 ?_;refine tk HFQ.out 2 ?_;refine tk HFQ.out 3 ?_;refine tk HFQ.out 4 ?_;refine tk HFQ.out 6 ?_;refine tkH 7 (.agg (yQx x.c (.slice x.p x.c.t.args.length x.cap)).toArray) ?_ ?_
        . intro V hSw; exact ySb 51 _ (by rfl) X (2) (by rfl) (yQx x.c (.slice x.p x.c.t.args.length x.cap)) _ (HFR.out V hSw) Tryz.underlying51 rfl (by kernel_rfl)
        try simp only [Act.put, nm]
        refine rdH 5 (fun K hK => ?_);go_simp;refine (HMO.out _).mono ?_;rintro e w8 ⟨rfl, hx8⟩;have HX8 := h_ (HX7.out.trans ((Xt.refl w7).drew.trans hx8));refine ko hK (Wr.of_xt ((Xt.refl w7).drew.trans hx8)) fun hHe => ?_;clear hK K hx8;refine rdH 8 (fun K hK => ?_);go_simp;refine (HPU.out y _ HX8.out).mono ?_;rintro e w9 ⟨l9, rfl, hD9, hp9, hg9⟩;have HD9 := h_ hD9;have HP9 := h_ hp9;have HX9 := h_ ((HX.out.trans HX8.out).grownB hg9 (fun q hq => by cases hq; exact hOB));refine ko hK (hHe.trans (Wr.of_grown hg9)) fun hHe2 => ?_;clear hK K hD9 hp9 hg9;refine z_ (by kernel_rfl) ?_ _;go_wp2_with fail;go_roundw
        case rel => exact ⟨i + 1, l9, by omega, by go_num, HD9, by unfold Hid; rw [HP9.out, zer HXI.out, jon, y44, zIi HCC.out, HL.out]; simp only [mvC, HVF.out, if_true]; rw [HY.out, if_neg HK2.out], HX9⟩
        case measure => simp [intOf]; omega
  . have hki : ¬ (i : Int) < (l.length : Int) := (by omega);obtain rfl : i = l.length := by omega
    have hl := HL.out;rw [List.take_length, HFIN.out] at hl;have HLE := h_ hl;clear hl;go_wp2_with fail
    go_ret2
    exact ⟨HXW.out, Or.inr ⟨OB, l1, rfl, HD.out, by rw [HLE.out], by have := (HXB.out.trans HX4.out).size; omega⟩⟩
theorem jsV (f : ArT) (g : Ad) (rb : Nat) (l : List PI) (w : World) (h : DG w rb l) (hO : GOk (pis l)) : Calls Tryz.prog 59 #[v_ rb, arT f, .agg #[g.1, g.2]] w (DocR (jst f g (pis l)) w) := by
 unfold jst;cases hv : ygU f.a f.b f.c f.d
 . simp only [if_true];refine (y3w f g rb w hv).mono ?_;rintro e w' ⟨rfl, hx⟩;exact ⟨hx, Or.inl ⟨rfl, rfl⟩⟩
 simp only [Bool.true_eq_false, if_false];cases hv1 : (y8L g.1 g.2 && y8L (zyU f g).1 (zyU f g).2)
 . simp only [if_true];refine (y0q f g rb w hv hv1).mono ?_;rintro e w' ⟨rfl, hx⟩;exact ⟨hx, Or.inl ⟨rfl, rfl⟩⟩
 simp only [Bool.true_eq_false, if_false];exact jra f g rb l w h hO hv hv1
end
end Go.Proofs.YtdoeejhdenifpaaGreatDoor
