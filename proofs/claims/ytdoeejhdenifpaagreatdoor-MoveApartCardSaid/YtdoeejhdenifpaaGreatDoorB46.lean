import Derived.Test.YtdoeejhdenifpaaGreatDoorB43
set_option maxRecDepth 100000
set_option maxHeartbeats 16000000
namespace Go.Proofs.YtdoeejhdenifpaaGreatDoor
section
open Go.RowKit Go.Sort Go.Maps Go.Shelf Go.MapKept
attribute [local go_sem] Oper.semAt_some
theorem zbW (f : ArT) (g : Ad) (rb : Nat) (l : List PI) (w : World) (h : DG w rb l) (hO : GOk (pis l)) (hv : ygU f.a f.b f.c f.d = true) (hv1 : y8L g.1 g.2 = true) :
    Calls Tryz.prog 58 #[v_ rb, .agg #[g.1, g.2], arT f] w (DocR (yuv (yat g f (pis l))) w) := by
 obtain ⟨B, hB⟩ := e_ w.heap.size;obtain ⟨wb0, wb1, hwb0, hsb0, hwb1, hsb1, HXB, HRB0, HRB1⟩ := bx2 hB #[.int .i64 g.1, .int .i64 g.2] #[.int .i64 f.a, .int .i64 f.b, .int .i64 f.c, .int .i64 f.d] 24 26;obtain ⟨g0, g1, _, _⟩ := zxi HRB0.out;obtain ⟨⟨a0, a1, a2, a3⟩, _⟩ := jr0 HRB1.out;have H := h_ h;have HO := h_ hO;have HVA := h_ (fun V => jb2 f.a f.b f.c f.d V);rw [hv] at HVA;have HVB := h_ (fun V => jlf g.1 g.2 V);rw [hv1] at HVB;have HV := h_ hv;have HB := h_ (zJx (x := f) (by unfold vA; unfold ygU at hv; exact hv));have HCL := h_ (yaj hv hO)
 have HWO := h_ (fun V (hx : Xt w V) => zlk f rb l V (h.xt hx));have HGT := h_ (fun V (hx : Xt w V) => jdF rb l g V (h.xt hx) hO);obtain ⟨c, hc⟩ := e_ ((lkM g (pis l)).getD zeroC);rw [hc] at HGT;unfold GetR at HGT;obtain ⟨ans, hans⟩ := e_ (yuv (yat g f (pis l)));rw [hans];have HANS := h_ hans;have HCC : Hid (c.kind ≠ 0 -> yQy c = true /\ (c.kind == 0) = false /\ jNS c = c /\ c.ok) := h_ fun hk => by
  cases hl : lkM g (pis l) with
  | none => rw [hl] at hc; exact absurd (by rw [<- hc]; rfl) hk
  | some d =>
   rw [hl] at hc;have hd : d = c := hc;subst hd;obtain ⟨v1, v2, v3, v4, v5⟩ := hO.each _ (zL0 hl);exact ⟨v2, v3, v4, v5⟩
 have HSMC : Hid (c.kind ≠ 0 -> yQE c.t) := h_ fun hk => by
  cases hl : lkM g (pis l) with
  | none => rw [hl] at hc; exact absurd (by rw [<- hc]; rfl) hk
  | some d =>
   rw [hl] at hc;have hd : d = c := hc;subst hd;obtain ⟨z, hz, e⟩ := List.mem_map.1 (zL0 hl);have e2 : z.c = d := congrArg Prod.snd e;rw [<- e2]; exact h.small z hz
 have HCE := h_ hc;clear h hO hv hv1 hc hans;go_enter Tryz.func58, Tryz.ntmps58;go_upto_region 8 with (first
  | (go_at_call 89; refine (HVA.out _).mono ?_; rintro e w2 ⟨rfl, hx2⟩; have HX2 := h_ hx2.xt; obtain ⟨h0, h1, _, _⟩ := zxi (rowX hx2.xt HRB0.out); clear hx2)
  | (go_at_call 65; refine (HVB.out _).mono ?_; rintro e w3 ⟨rfl, hx3⟩; have HX3 : Hid (Xt wb1 w3) := (by unfold Hid; rw [hx3]; exact HX2.out.alloc _); obtain ⟨i0, i1, _, _⟩ := zxi (rowX HX3.out HRB0.out); clear hx3)
  | (go_at_call 94; refine (HGT.out _ (HXB.out.trans HX3.out)).mono ?_; rintro e w4 ⟨cp, ck, cn, rfl, hA4, hx4⟩; have HA4 := h_ hA4; have HX4 := h_ (HX3.out.trans hx4); obtain ⟨CB, hCB⟩ := e_ w4.heap.size; obtain ⟨wZ, hwZ⟩ := e_ (w4.alloc (.cells zC 51)); have HZ : Hid (r_ wZ CB zC 51) := (by unfold Hid; rw [<- hwZ, <- hCB]; exact (a_ _ _).1); obtain ⟨wR, hwR⟩ := e_ (wZ.setRow CB (rQ c (.slice cp c.t.args.length ck))); have HRC : Hid (r_ wR CB (rQ c (.slice cp c.t.args.length ck)) 51) := (by unfold Hid; rw [<- hwR]; exact setRow_heap _ _ _ _ _ _ HZ.out); have HX5 : Hid (Xt wb1 wR) := (by unfold Hid; rw [<- hwR, <- hwZ]; exact (HX4.out.trans ((Xt.refl w4).alloc _)).grownB (jGX _ _ _) (fun q hq => by cases hq; have h6 := HX4.out.size; omega)); have HA5 := h_ (hA4.xt (w' := wR) (by rw [<- hwR, <- hwZ]; exact ((Xt.refl w4).alloc _).grownB (jGX _ _ _) (fun q hq => by cases hq; omega))); have HWR := h_ hwR; clear hA4 hx4 hwR)
  | (rw [hwZ])
  | (rw [hCB])
  | (refine w_ (P := Tryz.prog) rfl 51 _ _ rfl CB #[.int .i64 c.kind, .int .i64 c.v.kind, .float .f64 c.v.x, .string c.v.s, .bool c.v.b, .int .i64 c.v.f, .int .i64 c.t.kind, .int .i64 c.t.op, .float .f64 c.t.x, .string c.t.s, .bool c.t.b, .int .i64 c.t.f, .int .i64 c.t.ref.a.1, .int .i64 c.t.ref.a.2, .bool c.t.ref.cf, .bool c.t.ref.rf, .int .i64 c.t.to.a.1, .int .i64 c.t.to.a.2, .bool c.t.to.cf, .bool c.t.to.rf, .slice cp c.t.args.length ck] rfl rfl 51 _ HZ.out (by kernel_rfl) rfl (by simp [Value.oneCell']) ?_; rw [HWR.out]))
 obtain ⟨⟨m0, m1, m2, m3⟩, _⟩ := jr0 (rowX HX5.out HRB1.out);clear a0 a1 a2 a3 g0 g1 h0 h1 i0 i1 hwZ hCB;go_upto_region 9 with (first
  | (go_at_call 91; refine (HWO.out _ (HXB.out.trans HX5.out)).mono ?_; rintro e w5 ⟨OB, rfl, hd⟩; have HDO := h_ hd; clear hd))
 obtain ⟨l0, q1, q2, q3, q4⟩ := HDO.out;have HD0 := h_ q1;have HL0 : Hid (pis l0 = zRj f (pis l)) := h_ (q2.trans HCL.out);have HX6 := h_ q4;have hOB : wR.heap.size <= OB := q3;have HXW := h_ (HXB.out.trans HX5.out);clear q1 q2 q3 q4 HDO m0 m1 m2 m3;have HF : Hid (∀ V, Xt wR V -> c_ V B 0 g.1 /\ c_ V B 1 g.2 /\ c_ V (B + 1) 0 f.a /\ c_ V (B + 1) 1 f.b /\ c_ V (B + 1) 2 f.c /\ c_ V (B + 1) 3 f.d) := h_ fun V hV => by
  obtain ⟨⟨u0, u1, u2, u3⟩, _⟩ := jr0 (rowX (HX5.out.trans hV) HRB1.out);obtain ⟨y0, y1, _, _⟩ := zxi (rowX (HX5.out.trans hV) HRB0.out);exact ⟨y0, y1, u0, u1, u2, u3⟩
 have HRCF : Hid (∀ V, Xt wR V -> V.heap[CB]? = some (.cells (rQ c (.slice cp c.t.args.length ck)) 51 (0, 0))) := h_ fun V hV => rowX hV HRC.out;have kk : w5.cell? ⟨CB, 0, none⟩ = some (.int .i64 c.kind) := (by have := HRCF.out w5 HX6.out; simp [World.cell?, this]);by_cases hk : c.kind = 0
 . have hkb : (c.kind == 0) = true := (by simpa using hk);have HK := h_ hk;clear hk;go_wp2_with fail
   go_ret2
   have hfp : yat g f (pis l) = some (zRj f (pis l)) := (by unfold yat; rw [HCE.out, if_pos HK.out]);rw [<- HANS.out, hfp];exact ⟨HXW.out.trans HX6.out, Or.inr ⟨OB, l0, rfl, HD0.out, by rw [HL0.out]; rfl, by have := HXW.out.size; omega⟩⟩
 have hkb : (c.kind == 0) = false := (by simpa using hk);obtain ⟨z1, z2, z3, z4⟩ := HCC.out hk;have HGV := h_ z1;have HK0 := h_ z2;have HCO := h_ z3;have HOK := h_ z4;have HSM := h_ (HSMC.out hk);have HFP : Hid (yat g f (pis l) = yTr g c (zRj f (pis l)) (y1i f)) := (by unfold Hid yat; rw [HCE.out, if_neg hk]);clear hk z1 z2 z3 z4 HCC HSMC;obtain ⟨_, _, _, hh1, _, _⟩ := HF.out w5 HX6.out;go_wp2_with fail
 go_loopw [12] (fun s12 wr => ∃ (y : Int) (l1 : List PI) (pre : List Ad), (f.b <= y /\ y <= f.d + 1) /\ s12 = .int .i64 y /\ Hid (DG wr OB l1) /\ Hid (pre ++ zkY f f.a y = y1i f) /\ Hid (yTr g c (zRj f (pis l)) pre = some (pis l1)) /\ Hid (Xt wR wr)) (fun s12 _ => (f.d + 1 - intOf s12).toNat)
 case atStart => exact ⟨f.b, l0, [], by have := HB.out; omega, rfl, HD0, by unfold Hid; rw [List.nil_append]; exact zXF HV.out, by unfold Hid; rw [HL0.out]; rfl, HX6⟩
 case round =>
  obtain ⟨y, l1, pre, hy, rfl, HD, HPRE, HL, HX⟩ := hrel;have hbd := HB.out;obtain ⟨n0, n1, n2, n3, n4, n5⟩ := HF.out wr HX.out;by_cases hyd : y <= f.d
  . go_wp2_with fail;obtain ⟨wq, hwq⟩ : ∃ wq, wq = wr := ⟨_, rfl⟩;subst hwq
    go_loopw [13] (fun s13 wr => ∃ (x : Int) (l1 : List PI) (pre : List Ad), (f.a <= x /\ x <= f.c + 1) /\ s13 = .int .i64 x /\ Hid (DG wr OB l1) /\ Hid (pre ++ zkY f x y = y1i f) /\ Hid (yTr g c (zRj f (pis l)) pre = some (pis l1)) /\ Hid (Xt wR wr)) (fun s13 _ => (f.c + 1 - intOf s13).toNat)
    case atStart => exact ⟨f.a, l1, pre, by omega, rfl, HD, HPRE, HL, HX⟩
    case round =>
     clear n0 n1 n2 n3 n4 n5 HD HPRE HL HX;obtain ⟨x, l1, pre, hx, rfl, HD, HPRE, HL, HX⟩ := hrel;obtain ⟨n0, n1, n2, n3, n4, n5⟩ := HF.out wr HX.out;by_cases hxd : x <= f.c
     . have hadd : IntKind.i64.wrap (x + 1) = x + 1 := (by rw [IntKind.wrap_i64]; omega);have HRW := h_ (HRCF.out wr HX.out);have htl := zuk HV.out (x := x) (y := y) ⟨hx.1, hxd⟩ ⟨hy.1, hyd⟩;have hpre := HPRE.out;rw [htl] at hpre;have hpre2 : (pre ++ [(x, y)]) ++ zkY f (x + 1) y = y1i f := (by rw [<- hpre]; simp);have HPN := h_ hpre2;obtain ⟨dc, hdc⟩ := e_ (wrap64 (x - g.1));obtain ⟨dr, hdr⟩ := e_ (wrap64 (y - g.2));have HPU := h_ (jYq cn OB l1 c cp ck g (x, y) dc dr wr HD.out HOK.out HSM.out (HA5.out.xt HX.out) HGV.out HCO.out hdc hdr);have hS := shD_eq (dc := dc) (dr := dr) HCO.out
       obtain ⟨C, hC⟩ := e_ (shC dc dr (jNS c));obtain ⟨ec, hec⟩ := e_ (jJz (pis l1) (x, y) C);unfold ykf at HPU;rw [hS, hC, hec] at HPU;have HEC := h_ hec;have hvy : y8L x y = true := jwW (by omega);have H41 : Hid (ec ≠ 0 -> ec = 41) := h_ fun hne => by
        rw [<- hec, <- hC] at hne ⊢;exact cp_41 hvy HGV.out HK0.out hne
       have hstep : yTr g c (zRj f (pis l)) (pre ++ [(x, y)]) = y1P (some (pis l1)) (x, y) C := by
        rw [zVX, HL.out];simp only;rw [hdc, hdr, hC]
       have HSTEP := h_ hstep;have hcv : Value.agg (rQ c (.slice cp c.t.args.length ck)) = jEC c cp c.t.args.length ck := rfl;clear htl hpre hpre2 hdc hdr hS hC hec hvy hstep;by_cases hec0 : ec = 0
       . subst hec0;go_wp2_with (first
          | (refine x_ (P := Tryz.prog) rfl 51 _ rfl CB rfl 51 _ (0, 0) _ HRW.out Tryz.underlying51 rfl (by kernel_rfl) ?_)
          | (go_at_call 93; refine (HPU.out).mono ?_; rintro e w8 ⟨l8, rfl, hD8, hp8, hg8⟩; have HD8 := h_ hD8; have HP8 := h_ hp8; have HX8 := h_ (HX.out.grownB hg8 (fun q hq => by cases hq; exact hOB)); clear hD8 hp8 hg8))
         go_roundw
         case rel => exact ⟨x + 1, l8, pre ++ [(x, y)], by omega, by go_num, HD8, HPN, by unfold Hid; rw [HSTEP.out, z2O HEC.out, HP8.out], HX8⟩
         case measure => simp [intOf]; omega
       . have hecb : (ec != 0) = true := (by simpa using hec0);have HE41 := h_ (H41.out hec0);have HNO : Hid (yat g f (pis l) = none) := h_ (by
          rw [HFP.out, <- HPN.out];refine jkm _ _ _ _ _ ?_;rw [HSTEP.out, yuy (by rw [HEC.out]; exact hec0)])
         clear hec0;go_wp2_with (first
          | (refine x_ (P := Tryz.prog) rfl 51 _ rfl CB rfl 51 _ (0, 0) _ HRW.out Tryz.underlying51 rfl (by kernel_rfl) ?_)
          | (go_at_call 93; refine (HPU.out).mono ?_; rintro e w8 ⟨l8, rfl, hD8, hp8, hg8⟩; have HD8 := h_ hD8; have HP8 := h_ hp8; have HX8 := h_ (HX.out.grownB hg8 (fun q hq => by cases hq; exact hOB)); clear hD8 hp8 hg8))
         go_ret2
         rw [<- HANS.out, HNO.out, HE41.out];exact ⟨HXW.out.trans HX8.out, Or.inl ⟨rfl, rfl⟩⟩
     . obtain rfl : x = f.c + 1 := by omega
       have hadd : IntKind.i64.wrap (y + 1) = y + 1 := (by rw [IntKind.wrap_i64]; omega);have HPN : Hid (pre ++ zkY f f.a (y + 1) = y1i f) := h_ (by rw [<- jzw hyd HV.out]; exact HPRE.out);go_wp2_with fail;go_roundw
       case rel => exact ⟨y + 1, l1, pre, by omega, by go_num, HD, HPN, HL, HX⟩
       case measure => simp [intOf]; omega
  . obtain rfl : y = f.d + 1 := by omega
    have hpre := HPRE.out;rw [yfB, List.append_nil] at hpre;subst hpre;go_wp2_with fail
    go_ret2
    rw [<- HANS.out, HFP.out, HL.out];exact ⟨HXW.out.trans HX.out, Or.inr ⟨OB, l1, rfl, HD.out, rfl, by have := HXW.out.size; omega⟩⟩
theorem zhB (f : ArT) (g : Ad) (rb : Nat) (l : List PI) (w : World) (h : DG w rb l) (hO : GOk (pis l)) : Calls Tryz.prog 58 #[v_ rb, .agg #[g.1, g.2], arT f] w (DocR (jJL g f (pis l)) w) := by
 unfold jJL;cases hv : ygU f.a f.b f.c f.d
 . simp only [if_true];refine (jp6 f g rb w hv).mono ?_;rintro e w' ⟨rfl, hx⟩;exact ⟨hx, Or.inl ⟨rfl, rfl⟩⟩
 simp only [Bool.true_eq_false, if_false];cases hv1 : y8L g.1 g.2
 . simp only [if_true];refine (yun f g rb w hv hv1).mono ?_;rintro e w' ⟨rfl, hx⟩;exact ⟨hx, Or.inl ⟨rfl, rfl⟩⟩
 simp only [Bool.true_eq_false, if_false];exact zbW f g rb l w h hO hv hv1
def PF (o : Ans) (p : Option Addr) (w w' : World) : Prop := (o.1 = none /\ p = none) \/ ∃ go mo Mo, p = some ⟨go, 0, none⟩ /\ GridIs w' go mo Mo /\ o.1 = some (er Mo) /\ w.heap.size <= mo
def DF (o : Ans) (q : Option Addr) (w w' : World) : Prop := (o.1 = none /\ q = none) \/ ∃ ob l, q = some ⟨ob, 0, none⟩ /\ DG w' ob l /\ o.1 = some (pis l) /\ w.heap.size <= ob
def PrgU (o : Ans) (w : World) (e : Ending) (w' : World) : Prop := ∃ p, e = .returned (.tuple #[.pointer p, .int .i64 o.2]) /\ Xt w w' /\ PF o p w w'
def DocU (o : Ans) (w : World) (e : Ending) (w' : World) : Prop := ∃ q, e = .returned (.tuple #[.pointer q, .int .i64 o.2]) /\ Xt w w' /\ DF o q w w'
def yd4 (o : Ans) : Prop := ∀ A z, o = (some A, z) -> GOk A /\ z = 0
theorem PrgR.u {o : Ans} (ho : yd4 o) {w w' : World} {e : Ending} (h : PrgR o w e w') : PrgU o w e w' := by
 obtain ⟨hx, ⟨rfl, h1⟩ | ⟨go, mo, Mo, rfl, h1, h2, h3⟩⟩ := h
 . exact ⟨none, rfl, hx, .inl ⟨h1, rfl⟩⟩
 . refine ⟨some ⟨go, 0, none⟩, ?_, hx, .inr ⟨go, mo, Mo, rfl, h1, h2, h3⟩⟩;have hz := (ho _ o.2 (Prod.ext h2 rfl)).2;rw [hz]
theorem DocR.u {o : Ans} (ho : yd4 o) {w w' : World} {e : Ending} (h : DocR o w e w') : DocU o w e w' := by
 obtain ⟨hx, ⟨rfl, h1⟩ | ⟨ob, l, rfl, h1, h2, h3⟩⟩ := h
 . exact ⟨none, rfl, hx, .inl ⟨h1, rfl⟩⟩
 . refine ⟨some ⟨ob, 0, none⟩, ?_, hx, .inr ⟨ob, l, rfl, h1, h2, h3⟩⟩;have hz := (ho _ o.2 (Prod.ext h2 rfl)).2;rw [hz]
def DoesR (o : Ans) (w : World) (e : Ending) (w' : World) : Prop :=
 Xt w w' /\ ((o.1 = none /\ e = .returned (.tuple #[.pointer none, .pointer none, .bool true])) \/ ∃ go mo Mo ob lo, e = .returned (.tuple #[v_ go, v_ ob, .bool true]) /\ Pair w' go mo Mo ob lo /\ w.heap.size <= mo /\ w.heap.size <= ob /\ o.1 ≠ none)
theorem zj0 {o : Ans} (ho : yd4 o) {p q : Option Addr} {w w1 w2 w3 : World} (hp : PF o p w w1) (hq : DF o q w2 w3) (h01 : Xt w w1) (h12 : Xt w1 w2) (h23 : Xt w2 w3) :
    (o.1 = none /\ p = none /\ q = none) \/ ∃ go mo Mo ob lo, p = some ⟨go, 0, none⟩ /\ q = some ⟨ob, 0, none⟩ /\ Pair w3 go mo Mo ob lo /\ w.heap.size <= mo /\ w.heap.size <= ob /\ o.1 ≠ none := by
 rcases hp with ⟨h1, rfl⟩ | ⟨go, mo, Mo, rfl, h2, h3, h4⟩
 . rcases hq with ⟨_, rfl⟩ | ⟨ob, l, rfl, _, k, _⟩
   . exact .inl ⟨h1, rfl, rfl⟩
   . rw [h1] at k; cases k
 . rcases hq with ⟨h1, rfl⟩ | ⟨ob, l, rfl, k2, k3, k4⟩
   . rw [h1] at h3; cases h3
   . have he : er Mo = pis l := i_ (h3.symm.trans k3);have hlt := h2.lt;have s1 := h01.size;have s2 := h12.size;exact .inr ⟨go, mo, Mo, ob, l, rfl, rfl, ⟨h2.xt (h12.trans h23), k2, he, by rw [<- he]; exact (ho _ _ (Prod.ext h3 rfl)).1, by omega, by omega⟩, h4, by omega, by rw [h3]; simp⟩
theorem alike_u {o : Ans} (ho : yd4 o) {p q : Option Addr} {w w1 w2 w3 : World} (hp : PF o p w w1) (hq : DF o q w2 w3) (h01 : Xt w w1) (h12 : Xt w1 w2) (h23 : Xt w2 w3) :
    Calls Tryz.prog 24 #[.pointer p, .pointer q] w3 fun e w' => e = .returned (.bool true) /\ Xt w3 w' := by
 rcases zj0 ho hp hq h01 h12 h23 with ⟨_, rfl, rfl⟩ | ⟨go, mo, Mo, ob, lo, rfl, rfl, h, _⟩
 . exact jFz _
 . exact jUr _ _ _ _ _ _ h
theorem jTz {o : Ans} (ho : yd4 o) {p q : Option Addr} {w0 w w1 w2 w3 w4 : World} (h00 : Xt w0 w) (hp : PF o p w w1) (hq : DF o q w2 w3) (h01 : Xt w w1) (h12 : Xt w1 w2) (h23 : Xt w2 w3) (h34 : Xt w3 w4) :
    DoesR o w0 (.returned (.tuple #[.pointer p, .pointer q, .bool true])) w4 := by
 refine ⟨h00.trans (h01.trans (h12.trans (h23.trans h34))), ?_⟩;have s0 := h00.size;rcases zj0 ho hp hq h01 h12 h23 with ⟨h1, rfl, rfl⟩ | ⟨go, mo, Mo, ob, lo, rfl, rfl, h, h4, h5, h6⟩
 . exact .inl ⟨h1, rfl⟩
 . exact .inr ⟨go, mo, Mo, ob, lo, rfl, h.xt h34, by omega, by omega, h6⟩
theorem yrS (cols : Bool) (a n : Int) (rb : Nat) (l : List PI) (w : World) (h : DG w rb l) (hO : GOk (pis l)) :
    Calls Tryz.prog 56 #[v_ rb, .bool cols, .int .i64 a, .int .i64 n] w (DocR (jWQ cols a n (pis l)) w) := by
 cases hm : (jls (yaC cols) a n).2
 . refine (zXi cols a n rb w hm).mono ?_;rintro e w' ⟨rfl, hx⟩;have : jWQ cols a n (pis l) = (none, 1) := (by unfold jWQ; rw [hm]; rfl);rw [this];exact ⟨hx, .inl ⟨rfl, rfl⟩⟩
 . cases cols
   . exact ypp a n rb l w h hO hm
   . exact zit a n rb l w h hO hm
theorem jUQ (kk aa nn : Int) (f : ArT) (g : Ad) (gv rv : Option Addr) (o : Ans) (w : World) (F D : Nat) (X Y : Array Value) (hkk : I64 kk) (ho : yd4 o)
    (hW : (jJ5 kk 6 = 0 /\ F = 33 /\ X = #[.pointer gv, .int .i64 aa, .int .i64 nn] /\ D = 56 /\ Y = #[.pointer rv, .bool false, .int .i64 aa, .int .i64 nn]) \/ (jJ5 kk 6 = 1 /\ F = 34 /\ X = #[.pointer gv, .int .i64 aa, .int .i64 nn] /\ D = 56 /\ Y = #[.pointer rv, .bool true, .int .i64 aa, .int .i64 nn]) \/ (jJ5 kk 6 = 2 /\ F = 27 /\ X = #[.pointer gv, arT f, (.agg #[g.1, g.2])] /\ D = 57 /\ Y = #[.pointer rv, arT f, (.agg #[g.1, g.2])]) \/ (jJ5 kk 6 = 3 /\ F = 28 /\ X = #[.pointer gv, (.agg #[g.1, g.2]), arT f] /\ D = 58 /\ Y = #[.pointer rv, (.agg #[g.1, g.2]), arT f]) \/ (jJ5 kk 6 = 4 /\ F = 12 /\ X = #[.pointer gv, arT f, (.agg #[g.1, g.2])] /\ D = 59 /\ Y = #[.pointer rv, arT f, (.agg #[g.1, g.2])]) \/ (jJ5 kk 6 = 5 /\ F = 29 /\ X = #[.pointer gv, arT f] /\ D = 60 /\ Y = #[.pointer rv, arT f]))
    (hP : ∀ V, Xt w V -> Calls Tryz.prog F X V (PrgU o V)) (hD : ∀ V, Xt w V -> Calls Tryz.prog D Y V (DocU o V)) :
    Calls Tryz.prog 23 #[.pointer gv, .pointer rv, .agg #[.int .i64 kk, .int .i64 aa, .int .i64 nn, f.a, f.b, f.c, f.d, g.1, g.2]] w (DoesR o w) := by
 have HO := h_ ho;obtain ⟨B, hB⟩ := e_ w.heap.size;obtain ⟨w0, hw0⟩ := e_ (w.alloc (.cells #[.int .i64 kk, .int .i64 aa, .int .i64 nn, f.a, f.b, f.c, f.d, g.1, g.2] 28));have HX0 : Hid (Xt w w0) := (by unfold Hid; rw [<- hw0]; exact (Xt.refl _).alloc _);have HR0 : Hid (r_ w0 B #[.int .i64 kk, .int .i64 aa, .int .i64 nn, f.a, f.b, f.c, f.d, g.1, g.2] 28) := (by unfold Hid; rw [<- hw0, <- hB]; exact (a_ w _).1);obtain ⟨z0, z1, z2, z3, z4, z5, z6, z7, z8⟩ := cells9 HR0.out
 rcases hW with ⟨hk, rfl, rfl, rfl, rfl⟩ | ⟨hk, rfl, rfl, rfl, rfl⟩ | ⟨hk, rfl, rfl, rfl, rfl⟩ | ⟨hk, rfl, rfl, rfl, rfl⟩ | ⟨hk, rfl, rfl, rfl, rfl⟩ | ⟨hk, rfl, rfl, rfl, rfl⟩
 all_goals
  have HPK := h_ (fun V => zZA kk 6 V hkk.1 hkk.2 (by omega) (by omega));rw [hk] at HPK;have HP := h_ hP;have HD := h_ hD;clear hk hkk ho hP hD;go_enter Tryz.func23, Tryz.ntmps23;go_wp2_with (first
   | (go_at_call 32; refine (HPK.out _).mono ?_; rintro e w1 ⟨rfl, rfl⟩)
   | ((first | go_at_call 33 | go_at_call 34 | go_at_call 27 | go_at_call 28 | go_at_call 12 | go_at_call 29); refine (HP.out _ HX0.out).mono ?_; rintro e w1 ⟨p, rfl, hx1, hpf⟩; have HX1 := h_ hx1; have HPF := h_ hpf; have HX2 := h_ (HX0.out.trans hx1); clear z0 z1 z2 z3 z4 z5 z6 z7 z8; obtain ⟨z0, z1, z2, z3, z4, z5, z6, z7, z8⟩ := cells9 (rowX hx1 HR0.out); clear hx1 hpf)
   | ((first | go_at_call 56 | go_at_call 57 | go_at_call 58 | go_at_call 59 | go_at_call 60); refine (HD.out _ HX2.out).mono ?_; rintro e w3 ⟨q, rfl, hx3, hdf⟩; have HX3 := h_ hx3; have HDF := h_ hdf; clear hx3 hdf z0 z1 z2 z3 z4 z5 z6 z7 z8)
   | (go_at_call 24; refine (alike_u HO.out HPF.out HDF.out HX1.out (Xt.refl _) HX3.out).mono ?_; rintro e w4 ⟨rfl, hx4⟩; have HX4 := h_ hx4; clear hx4))
  refine p_ (v := .tuple #[.pointer p, .pointer q, .bool true]) ?_ rfl (jTz HO.out HX0.out HPF.out HDF.out HX1.out (Xt.refl _) HX3.out HX4.out);first | rfl | (simp [results, Tryz.f23])
def ynd (kk aa nn : Int) (f : ArT) (g : Ad) (P : PG) : Ans :=
 if jJ5 kk 6 = 0 then jWQ false aa nn P else if jJ5 kk 6 = 1 then jWQ true aa nn P else if jJ5 kk 6 = 2 then yts f g P else if jJ5 kk 6 = 3 then jJL g f P else if jJ5 kk 6 = 4 then jst f g P else zpf f P
theorem jqM {kk aa nn : Int} {f : ArT} {g : Ad} {P : PG} (h : GOk P) : yd4 (ynd kk aa nn f g P) := fun A z hA => by
 unfold ynd at hA;split at hA
 . exact jgU h hA
 split at hA
 . exact jgU h hA
 split at hA
 . exact z4W h hA
 split at hA
 . exact y0V h hA
 split at hA
 . exact yyc h hA
 . exact yZc h hA
theorem jRt (kk : Int) : jJ5 kk 6 = 0 \/ jJ5 kk 6 = 1 \/ jJ5 kk 6 = 2 \/ jJ5 kk 6 = 3 \/ jJ5 kk 6 = 4 \/ jJ5 kk 6 = 5 := by
 have := zbm (c := kk) (n := 6) (by omega);omega
theorem yNl (kk aa nn : Int) (f : ArT) (g : Ad) (gb mb : Nat) (M : GM) (rb : Nat) (l : List PI) (w : World) (hkk : I64 kk) (hT : Tabs w) (h : Pair w gb mb M rb l) :
    Calls Tryz.prog 23 #[v_ gb, v_ rb, .agg #[.int .i64 kk, .int .i64 aa, .int .i64 nn, f.a, f.b, f.c, f.d, g.1, g.2]] w (DoesR (ynd kk aa nn f g (pis l)) w) := by
 have ho : yd4 (ynd kk aa nn f g (pis l)) := jqM h.ok;have hO : GOk (er M) := by rw [h.e]; exact h.ok
 revert ho
 unfold ynd;rcases jRt kk with e | e | e | e | e | e
 . rw [e]; simp only [Int.reduceEq, if_true]; intro ho;exact jUQ kk aa nn f g _ _ _ w _ _ _ _ hkk ho (Or.inl ⟨e, rfl, rfl, rfl, rfl⟩) (fun V hV => (yHP aa nn (h.g.xt hV) (hT.xt hV) hO).mono fun _ _ k => by rw [h.e] at k; exact k.u ho) (fun V hV => (yrS false aa nn rb l V (h.r.xt hV) h.ok).mono fun _ _ k => k.u ho)
 . rw [e]; simp only [Int.reduceEq, if_true, if_false]; intro ho;exact jUQ kk aa nn f g _ _ _ w _ _ _ _ hkk ho (Or.inr (Or.inl ⟨e, rfl, rfl, rfl, rfl⟩)) (fun V hV => (yJp aa nn (h.g.xt hV) (hT.xt hV) hO).mono fun _ _ k => by rw [h.e] at k; exact k.u ho) (fun V hV => (yrS true aa nn rb l V (h.r.xt hV) h.ok).mono fun _ _ k => k.u ho)
 . rw [e]; simp only [Int.reduceEq, if_true, if_false]; intro ho;exact jUQ kk aa nn f g _ _ _ w _ _ _ _ hkk ho (Or.inr (Or.inr (Or.inl ⟨e, rfl, rfl, rfl, rfl⟩))) (fun V hV => (yi4 f g (h.g.xt hV) (hT.xt hV) hO).mono fun _ _ k => by rw [h.e] at k; exact k.u ho) (fun V hV => (zdI f g rb l V (h.r.xt hV) h.ok).mono fun _ _ k => k.u ho)
 . rw [e]; simp only [Int.reduceEq, if_true, if_false]; intro ho;exact jUQ kk aa nn f g _ _ _ w _ _ _ _ hkk ho (Or.inr (Or.inr (Or.inr (Or.inl ⟨e, rfl, rfl, rfl, rfl⟩)))) (fun V hV => (zDM f g (h.g.xt hV) (hT.xt hV) hO).mono fun _ _ k => by rw [h.e] at k; exact k.u ho) (fun V hV => (zhB f g rb l V (h.r.xt hV) h.ok).mono fun _ _ k => k.u ho)
 . rw [e]; simp only [Int.reduceEq, if_true, if_false]; intro ho;exact jUQ kk aa nn f g _ _ _ w _ _ _ _ hkk ho (Or.inr (Or.inr (Or.inr (Or.inr (Or.inl ⟨e, rfl, rfl, rfl, rfl⟩))))) (fun V hV => (ywD f g (h.g.xt hV) (hT.xt hV) hO).mono fun _ _ k => by rw [h.e] at k; exact k.u ho) (fun V hV => (jsV f g rb l V (h.r.xt hV) h.ok).mono fun _ _ k => k.u ho)
 . rw [e]; simp only [Int.reduceEq, if_false]; intro ho;exact jUQ kk aa nn f g _ _ _ w _ _ _ _ hkk ho (Or.inr (Or.inr (Or.inr (Or.inr (Or.inr ⟨e, rfl, rfl, rfl, rfl⟩))))) (fun V hV => (yqR f (h.g.xt hV) (hT.xt hV) hO).mono fun _ _ k => by rw [h.e] at k; exact k.u ho) (fun V hV => (zPk f rb l V (h.r.xt hV) h.ok).mono fun _ _ k => k.u ho)
end
end Go.Proofs.YtdoeejhdenifpaaGreatDoor
