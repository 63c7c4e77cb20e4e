/- quadrillelaw22.MoveApart returns true for every input, and what is handed in reads afterwards as it read before; its row is tied to the program's text, which lays the two listed variables; no other condition. -/
import Derived.Test.YtdoeejhdenifpaaGreatDoorB46
import Derived.Test.YtdoeejhdenifpaaGreatDoorB44
import Derived.OpenShut
set_option maxRecDepth 100000
set_option maxHeartbeats 16000000
namespace Go.Proofs.YtdoeejhdenifpaaGreatDoor
section
open Go.RowKit Go.Sort Go.Maps Go.Shelf Go.MapKept
attribute [local go_sem] Oper.semAt_some
structure StT where
 k : Int
 a : Int
 n : Int
 f : ArT
 g : Ad
def DoesU (w : World) (e : Ending) (w' : World) : Prop := ∃ p q, e = .returned (.tuple #[.pointer p, .pointer q, .bool true]) /\ Xt w w' /\ ((p = none /\ q = none) \/ ∃ go mo Mo ob lo, p = some ⟨go, 0, none⟩ /\ q = some ⟨ob, 0, none⟩ /\ Pair w' go mo Mo ob lo /\ w.heap.size <= mo /\ w.heap.size <= ob)
theorem DoesR.u {o : Ans} {w w' : World} {e : Ending} (h : DoesR o w e w') : DoesU w e w' := by
 obtain ⟨hx, ⟨_, rfl⟩ | ⟨go, mo, Mo, ob, lo, rfl, h1, h2, h3, _⟩⟩ := h
 . exact ⟨none, none, rfl, hx, .inl ⟨rfl, rfl⟩⟩
 . exact ⟨_, _, rfl, hx, .inr ⟨go, mo, Mo, ob, lo, rfl, rfl, h1, h2, h3⟩⟩
theorem Pair.beside {w w1 w2 : World} {gb mb rb go mo ob : Nat} {M Mo : GM} {l lo : List PI} (h : Pair w gb mb M rb l) (k : Pair w go mo Mo ob lo) (hg1 : w.grownBy w1 (some mo)) (hg2 : w1.grownBy w2 (some ob)) (hD : DG w1 ob lo) (d : mb ≠ mo /\ rb ≠ mo /\ ob ≠ mb /\ ob ≠ gb /\ rb ≠ ob) : Pair w2 gb mb M rb l :=
 ⟨(h.g.byMap k.g hg1 d.1).byDoc hD hg2 d.2.2.1 d.2.2.2.1, (h.r.byMap k.g hg1 d.2.1).byDoc hD hg2 d.2.2.2.2, h.e, h.ok, h.n1, h.n2⟩
theorem grid_doc {w : World} {gb mb rb : Nat} {M : GM} {l : List PI} (h : GridIs w gb mb M) (k : DG w rb l) : rb ≠ gb := fun e => by
 obtain ⟨v, hc, hP⟩ := k.cell;obtain ⟨a, c, rfl, _⟩ := hP.shape;rw [e, h.cell] at hc; cases hc
theorem moveApart_any (l : List PI) (lv : Value) (x : StT) (m : List PI) (mv : Value) (w : World) (hT : Tabs w) (hl : PutsIn w lv l) (hs : ∀ y ∈ l, yQE y.c.t) (hk : I64 x.k) (hm : PutsIn w mv m) (hms : ∀ y ∈ m, yQE y.c.t) :
    Calls Tryz.prog 5 #[lv, .agg #[.int .i64 x.k, x.a, x.n, x.f.a, x.f.b, x.f.c, x.f.d, x.g.1, x.g.2], mv] w fun e w' => e = .returned (.bool true) /\ Xt w w' := by
 obtain ⟨ma, mc, rfl, hmc, hmc2⟩ := hm.shape;have HT := h_ hT;have HM := h_ hm;have HMS := h_ hms;have HK := h_ hk;obtain ⟨B, hB⟩ := e_ w.heap.size;obtain ⟨w0, hw0⟩ := e_ (w.alloc (.cells #[.int .i64 x.k, x.a, x.n, x.f.a, x.f.b, x.f.c, x.f.d, x.g.1, x.g.2] 28));have HX0 : Hid (Xt w w0) := by unfold Hid; rw [<- hw0]; exact (Xt.refl _).alloc _
 have HR0 : Hid (r_ w0 B #[.int .i64 x.k, x.a, x.n, x.f.a, x.f.b, x.f.c, x.f.d, x.g.1, x.g.2] 28) := (by unfold Hid; rw [<- hw0, <- hB]; exact (a_ w _).1);have HB := h_ (jdH l lv w0 (hT.xt HX0.out) (hl.xt HX0.out) hs);clear hT hl hs hm hms hk;go_enter Tryz.func5, Tryz.ntmps5;go_upto_region 5 with (first
  | (go_at_call 22; refine (HB.out).mono ?_; rintro e w1 ⟨gb, mb, M, rb, l1, rfl, hp, hx1, _, hmb, hrb⟩; have hx0s := HX0.out.size; have hwmb : w.heap.size <= mb := (by omega); have hwrb : w.heap.size <= rb := (by omega); have HP := h_ hp; have HX01 := h_ hx1; have HX1 := h_ (HX0.out.trans hx1); clear hp hx1)
  | (go_at_call 9; refine (ys3 _ (HT.out.xt HX1.out)).mono ?_; rintro e w2 ⟨rfl, hx2⟩; have HX2 := h_ (HX1.out.trans hx2); have HP2 := h_ (HP.out.xt hx2); obtain ⟨z0, z1, z2, z3, z4, z5, z6, z7, z8⟩ := cells9 (rowX (HX01.out.trans hx2) HR0.out); clear hx2)
  | (go_at_call 23; refine (yNl x.k x.a x.n x.f x.g gb mb M rb l1 w2 HK.out (HT.out.xt HX2.out) HP2.out).mono ?_; rintro e w3 h3; obtain ⟨p, q, rfl, hx3, h3⟩ := h3.u; have HD := h_ h3; have HX3 := h_ (HX2.out.trans hx3); have HP3 := h_ (HP2.out.xt hx3); clear hx3 h3 z0 z1 z2 z3 z4 z5 z6 z7 z8))
 clear HB HP;rcases HD.out with ⟨rfl, rfl⟩ | ⟨go, mo, Mo, ob, lo, rfl, rfl, hp, hmo, hob⟩
 . go_wp2_with fail;refine p_ (v := .bool true) ?_ rfl ⟨rfl, HX3.out⟩;first | rfl | (simp [results, Tryz.f5])
 . have hg2 := HP2.out.g.lt;have hr2 := HP2.out.r.lt;have hx2s := HX2.out.size;have hrg := grid_doc hp.g HP3.out.r;have HPN := h_ hp;have hd1 : mb ≠ mo /\ rb ≠ mo /\ ob ≠ mb /\ ob ≠ gb /\ rb ≠ ob := ⟨by omega, by omega, by omega, by omega, by omega⟩;have hd2 : mo ≠ mb /\ ob ≠ mb /\ rb ≠ mo /\ rb ≠ go /\ ob ≠ rb := ⟨by omega, by omega, by omega, hrg, by omega⟩;have HD1 := h_ hd1;have HD2 := h_ hd2;have hwmo : w.heap.size <= mo := (by omega);have hwob : w.heap.size <= ob := (by omega);clear HD hp hd1 hd2;go_wp2_with fail
   go_loopw [12] (fun s12 wr => ∃ (i : Nat) (Mo : GM) (lo : List PI), i <= m.length /\ s12 = .int .i64 i /\ Hid (Pair wr gb mb M rb l1) /\ Hid (Pair wr go mo Mo ob lo) /\ Hid (Xt w wr)) (fun s12 _ => m.length - (intOf s12).toNat)
   case atStart => exact ⟨0, Mo, lo, Nat.zero_le _, rfl, HP3, HPN, HX3⟩
   case round =>
    clear HP3 HPN HX3;obtain ⟨i, Mo, lo, hi, rfl, HQ, HR, HX⟩ := hrel;by_cases hlt : i < m.length
    . have hki : (i : Int) < (m.length : Int) := (by omega);obtain ⟨y, hy⟩ : ∃ y, m[i]? = some y := ⟨m[i], j_ hlt⟩;obtain ⟨b, off, rfl, q0, q1, q2, hok, n, hin⟩ := HM.out.at hy;have HOK := h_ hok;have HIN := h_ hin;have HSX := h_ (HMS.out y (m_ hy));have HF : Hid (∀ V, Xt w V -> c_ V b (off + i * 23) y.a.1 /\ c_ V b (off + i * 23 + 1) y.a.2) := h_ fun V hV => ⟨hV.cellsIn _ _ _ q0, hV.cellsIn _ _ _ q1⟩;have HFR : Hid (∀ V, Xt w V -> V.rangeAt b (off + i * 23 + 2) ((inC1 y).drop 2)) := h_ fun V hV j u hu => hV.cellsIn _ _ _ (q2 j u hu)
      have HXD : Hid (Xt w wr.drew) := HX.out.drew;have HRD := h_ (HR.out.xt (Xt.refl wr).drew);have HOD := h_ (HQ.out.xt (Xt.refl wr).drew);have HPU := h_ (zbE n go mo Mo y.a y.c y.p y.cap wr.drew HRD.out.g HOK.out (HT.out.xt HXD.out) HSX.out (HIN.out.xt HXD.out));unfold PutR at HPU;obtain ⟨ec, hec⟩ := e_ (jJz (pis lo) y.a y.c);rw [HRD.out.code, hec] at HPU;have HEC := h_ hec;clear hy q0 q1 q2 hok hin hec;go_upto_region 10 with fail;refine rg (fun V => Xt w V) HXD.out fun hHeld => ?_;refine tk HF.out 0 ?_;refine tk HF.out 1 ?_;refine tk HF.out 2 ?_;refine tk HF.out 3 ?_;refine tk HF.out 4 ?_;refine tk HF.out 5 ?_;refine tk HF.out 6 ?_
      refine tk HF.out 7 ?_;refine tk HF.out 8 ?_;refine tk HF.out 9 ?_;refine tkH 10 (.agg ((inC1 y).drop 2).toArray) ?_ ?_
      . intro V hSw; exact ySb 51 _ (by rfl) b (off + i * 23 + 2) (by rfl) ((inC1 y).drop 2) _ (HFR.out V hSw) Tryz.underlying51 rfl (by kernel_rfl)
      try simp only [Act.put, nm]
      refine tk HF.out 12 ?_;refine tk HF.out 13 ?_;refine tk HF.out 14 ?_;refine tk HF.out 15 ?_;refine tk HF.out 16 ?_;refine tk HF.out 17 ?_;refine tk HF.out 18 ?_;refine tk HF.out 19 ?_;refine tk HF.out 20 ?_;refine tk HF.out 21 ?_;refine tkH 22 (.agg ((inC1 y).drop 2).toArray) ?_ ?_
      . intro V hSw; exact ySb 51 _ (by rfl) b (off + i * 23 + 2) (by rfl) ((inC1 y).drop 2) _ (HFR.out V hSw) Tryz.underlying51 rfl (by kernel_rfl)
      try simp only [Act.put, nm]
      refine rdH 11 fun K hK => ?_;go_simp;refine (HPU.out).mono ?_;rintro e w5 ⟨ax, rfl, hG5, hg5⟩;have HX5 := h_ (HXD.out.grownB hg5 (fun q hq => by cases hq; omega));have HD5 := h_ (HRD.out.r.byMap HRD.out.g hg5 HRD.out.n1);have HG5 := h_ hG5;have HB5 := h_ hg5;have HPV := h_ (ze5 n ob lo y.a y.c y.p y.cap w5 HD5.out HOK.out HSX.out (HIN.out.xt HX5.out));unfold ykf at HPV;rw [HEC.out] at HPV;refine ko hK HX5.out fun hHe => ?_;clear hK K hg5 hG5;refine rdH 23 fun K hK => ?_;go_simp;refine (HPV.out).mono ?_;rintro e w6 ⟨l6, rfl, hD6, hp6, hg6⟩;have HX6 := h_ (HX5.out.grownB hg6 (fun q hq => by cases hq; omega))
      have HR6 := h_ (HRD.out.put HOK.out ax rfl HG5.out hg6 HD5.out hD6 hp6);have HO6 := h_ (HOD.out.beside HRD.out HB5.out hg6 HD5.out HD1.out);refine ko hK HX6.out fun hHe2 => ?_;clear hK K hD6 hp6 hg6;refine tk HF.out 24 ?_;refine z_ (by kernel_rfl) ?_ _;go_wp2_with fail;go_roundw
      case rel => exact ⟨i + 1, _, l6, by omega, by go_num, HO6, HR6, HX6⟩
      case measure => simp [intOf]; omega
    . have hki : ¬ (i : Int) < (m.length : Int) := (by omega);have HA1 := h_ (fun V (h : Pair V gb mb M rb l1) => jUr gb mb M rb l1 V h);have HA2 := h_ (fun V (h : Pair V go mo Mo ob lo) => jUr go mo Mo ob lo V h);clear hlt hi;go_upto_region 14 with (first
       | (go_at_call 24; refine (HA1.out _ HQ.out).mono ?_; clear HA1; rintro e w4 ⟨rfl, hx4⟩; have HX4 := h_ (HX.out.trans hx4); have HQ4 := h_ (HQ.out.xt hx4); have HR4 := h_ (HR.out.xt hx4); clear hx4)
       | (go_at_call 24; refine (HA2.out _ HR4.out).mono ?_; clear HA2; rintro e w7 ⟨rfl, hx7⟩; have HX7 := h_ (HX4.out.trans hx7); have HQ7 := h_ (HQ4.out.xt hx7); have HR7 := h_ (HR4.out.xt hx7); clear hx7))
      clear HQ HR HX HX4 HQ4 HR4;go_wp2_with fail
      go_loopw [13, 14] (fun s13 s14 wr => ∃ (i : Nat) (M : GM) (l1 : List PI), i <= m.length /\ s13 = .int .i64 i /\ Hid (Pair wr gb mb M rb l1) /\ Hid (Pair wr go mo Mo ob lo) /\ Hid (Xt w wr)) (fun s13 _ _ => m.length - (intOf s13).toNat)
      case atStart => exact ⟨0, M, l1, Nat.zero_le _, rfl, HQ7, HR7, HX7⟩
      case round =>
       clear HQ7 HR7 HX7;obtain ⟨i, M, l1, hi, rfl, HQ, HR, HX⟩ := hrel;by_cases hlt : i < m.length
       . have hki : (i : Int) < (m.length : Int) := (by omega);obtain ⟨j, hj⟩ : ∃ j, j = m.length - 1 - i := ⟨_, rfl⟩;have hjl : j < m.length := (by omega);have n1 : IntKind.i64.wrap ((m.length : Int) - 1) = (m.length : Int) - 1 := ynw (by omega) (by omega);have n2 : IntKind.i64.wrap ((m.length : Int) - 1 - (i : Int)) = (j : Int) := (by rw [ynw (by omega) (by omega)]; omega);have hkj : (j : Int) < (m.length : Int) := (by omega);clear hj;obtain ⟨y, hy⟩ : ∃ y, m[j]? = some y := ⟨m[j], j_ hjl⟩;obtain ⟨b, off, rfl, q0, q1, q2, hok, n, hin⟩ := HM.out.at hy;have HOK := h_ hok;have HIN := h_ hin;have HSX := h_ (HMS.out y (m_ hy))
         have HF : Hid (∀ V, Xt w V -> c_ V b (off + j * 23) y.a.1 /\ c_ V b (off + j * 23 + 1) y.a.2) := h_ fun V hV => ⟨hV.cellsIn _ _ _ q0, hV.cellsIn _ _ _ q1⟩;have HFR : Hid (∀ V, Xt w V -> V.rangeAt b (off + j * 23 + 2) ((inC1 y).drop 2)) := h_ fun V hV j u hu => hV.cellsIn _ _ _ (q2 j u hu);have HXD : Hid (Xt w wr.drew) := HX.out.drew;have HRD := h_ (HQ.out.xt (Xt.refl wr).drew);have HOD := h_ (HR.out.xt (Xt.refl wr).drew);have HPU := h_ (zbE n gb mb M y.a y.c y.p y.cap wr.drew HRD.out.g HOK.out (HT.out.xt HXD.out) HSX.out (HIN.out.xt HXD.out));unfold PutR at HPU
         obtain ⟨ec, hec⟩ := e_ (jJz (pis l1) y.a y.c);rw [HRD.out.code, hec] at HPU;have HEC := h_ hec;clear hy q0 q1 q2 hok hin hec;go_upto_region 18 with fail;refine rg (fun V => Xt w V) HXD.out fun hHeld => ?_;refine tk HF.out 0 ?_;refine tk HF.out 1 ?_;refine tk HF.out 2 ?_;refine tk HF.out 3 ?_;refine tk HF.out 4 ?_;refine tk HF.out 5 ?_;refine tk HF.out 6 ?_;refine tk HF.out 7 ?_;refine tk HF.out 8 ?_;refine tk HF.out 9 ?_;refine tkH 10 (.agg ((inC1 y).drop 2).toArray) ?_ ?_
         . intro V hSw; exact ySb 51 _ (by rfl) b (off + j * 23 + 2) (by rfl) ((inC1 y).drop 2) _ (HFR.out V hSw) Tryz.underlying51 rfl (by kernel_rfl)
         try simp only [Act.put, nm]
         refine tk HF.out 12 ?_;refine tk HF.out 13 ?_;refine tk HF.out 14 ?_;refine tk HF.out 15 ?_;refine tk HF.out 16 ?_;refine tk HF.out 17 ?_;refine tk HF.out 18 ?_;refine tk HF.out 19 ?_;refine tk HF.out 20 ?_;refine tk HF.out 21 ?_;refine tkH 22 (.agg ((inC1 y).drop 2).toArray) ?_ ?_
         . intro V hSw; exact ySb 51 _ (by rfl) b (off + j * 23 + 2) (by rfl) ((inC1 y).drop 2) _ (HFR.out V hSw) Tryz.underlying51 rfl (by kernel_rfl)
         try simp only [Act.put, nm]
         refine rdH 11 fun K hK => ?_;go_simp;refine (HPU.out).mono ?_;rintro e w5 ⟨ax, rfl, hG5, hg5⟩;have HX5 := h_ (HXD.out.grownB hg5 (fun q hq => by cases hq; omega));have HD5 := h_ (HRD.out.r.byMap HRD.out.g hg5 HRD.out.n1);have HG5 := h_ hG5;have HB5 := h_ hg5;have HPV := h_ (ze5 n rb l1 y.a y.c y.p y.cap w5 HD5.out HOK.out HSX.out (HIN.out.xt HX5.out));unfold ykf at HPV;rw [HEC.out] at HPV;refine ko hK HX5.out fun hHe => ?_;clear hK K hg5 hG5;refine rdH 23 fun K hK => ?_;go_simp;refine (HPV.out).mono ?_;rintro e w6 ⟨l6, rfl, hD6, hp6, hg6⟩;have HX6 := h_ (HX5.out.grownB hg6 (fun q hq => by cases hq; omega))
         have HR6 := h_ (HRD.out.put HOK.out ax rfl HG5.out hg6 HD5.out hD6 hp6);have HO6 := h_ (HOD.out.beside HRD.out HB5.out hg6 HD5.out HD2.out);refine ko hK HX6.out fun hHe2 => ?_;clear hK K hD6 hp6 hg6;refine tk HF.out 24 ?_;refine z_ (by kernel_rfl) ?_ _;go_wp2_with fail;go_roundw
         case rel => exact ⟨i + 1, _, l6, by omega, by go_num, HR6, HO6, HX6⟩
         case measure => simp [intOf]; omega
       . have hki : ¬ (i : Int) < (m.length : Int) := (by omega);have HA1 := h_ (fun V (h : Pair V gb mb M rb l1) => jUr gb mb M rb l1 V h);have HA2 := h_ (fun V (h : Pair V go mo Mo ob lo) => jUr go mo Mo ob lo V h);clear hlt hi;go_wp2_with (first
          | (go_at_call 24; refine (HA1.out _ HQ.out).mono ?_; clear HA1; rintro e w4 ⟨rfl, hx4⟩; have HX4 := h_ (HX.out.trans hx4); have HR4 := h_ (HR.out.xt hx4); clear hx4)
          | (go_at_call 24; refine (HA2.out _ HR4.out).mono ?_; clear HA2; rintro e w7 ⟨rfl, hx7⟩; have HX7 := h_ (HX4.out.trans hx7); clear hx7))
         refine p_ (v := .bool true) ?_ rfl ⟨rfl, HX7.out⟩;first | rfl | (simp [results, Tryz.f5])
end
section
open Go.ChangeShapes Go.WideShapes Go.ChangeAt Go.RowKit Go.Joins Go.Deep Go.Shelf
theorem lf (os : Os) (started : os.Started) (H : Type) (enc : TypeId × Value -> H) :
    ReturnsInHanded {} Tryz.checked os 5 .any (fun w args => (Rows.moveApartSpec.pre enc Tryz.prog Tryz.f5 [] false w args /\ laidMetH Tryz.prog ygn w) /\ sizedMet enc Tryz.prog Tryz.f5 (OpenSpec.ofChange Rows.moveApartSpec) false w args)
     (Rows.moveApartSpec.post enc Tryz.prog Tryz.f5 false true false false) := by
 refine returnsInHanded_of_change_and (C := Tryz.checked) (X := fun w _ => laidMetH Tryz.prog ygn w) (fun _ _ _ hh h => h.of_heap hh) Tryz.own' started (by kernel_rfl) Tryz.func5
  (ChangeSpec.witness_at (enc := enc) (C := Tryz.checked) (os := os) (X := fun w _ => laidMetH Tryz.prog ygn w) false (ybg os) #[.slice none 0 0, .agg #[.int .i64 0, .int .i64 0, .int .i64 0, .int .i64 0, .int .i64 0, .int .i64 0, .int .i64 0, .int .i64 0, .int .i64 0], .slice none 0 0] 8 rfl (by kernel_rfl) (by kernel_rfl) (by kernel_rfl) (by kernel_rfl) (by kernel_rfl) (z2N os _)) ?_
 intro W base args ds gs before hval0 hW _ hZ hL _;have hval : ∀ (j : Nat) t v, Tryz.f5.params[j]? = some t -> args[j]? = some v -> Value.okWide Tryz.prog W .any base t v := hval0;have hW' := hW;obtain ⟨p, q, hA0, hV, rfl, _, _⟩ := hW;have hA : DataW.TrodAll enc Tryz.prog W 0 (fun _ => true) true Tryz.f5.params.toList args.toList ds p := hA0;rw [Tryz.params5] at hA hval;obtain ⟨v1, v2, v3, d1, d2, d3, p1, p2, p3, rfl, rfl, rfl, h1, h2, h3⟩ := trodAll_three hA;obtain ⟨rfl, rfl⟩ := trodVars_none hV;have hz : ∀ q ∈ d1.weights Tryz.prog 22, q <= reachBytes := by
  intro q hq;have := List.all_eq_true.1 hZ q (by
   rw [Tryz.params5];simp only [List.cons_append, List.nil_append, DataW.weightsEach, List.mem_append];exact Or.inl hq)
  simpa using this
 have hz3 : ∀ q ∈ d3.weights Tryz.prog 22, q <= reachBytes := by
  intro q hq;have := List.all_eq_true.1 hZ q (by
   rw [Tryz.params5];simp only [List.cons_append, List.nil_append, DataW.weightsEach, List.mem_append];first | exact Or.inr (Or.inr hq) | exact Or.inr (Or.inr (Or.inl hq)))
  simpa using this
 obtain ⟨l, hl, hls⟩ : ∃ l, PutsIn W v1 l /\ ∀ x ∈ l, yQE x.c.t := by
  obtain ⟨a0, n0, c0, rfl⟩ := okWide_slice Tryz.underlying22 (hval 0 22 v1 rfl rfl);obtain ⟨f, hf⟩ := h1;exact jc0 (by simpa [Value.cells] using hf) hz
 obtain ⟨m, hm, hms⟩ : ∃ l, PutsIn W v3 l /\ ∀ x ∈ l, yQE x.c.t := by
  obtain ⟨a0, n0, c0, rfl⟩ := okWide_slice Tryz.underlying22 (hval 2 22 v3 rfl rfl);obtain ⟨f, hf⟩ := h3;exact jc0 (by simpa [Value.cells] using hf) hz3
 obtain ⟨cs, rfl, _⟩ := okWide_struct Tryz.underlying28 (hval 1 28 v2 rfl rfl);obtain ⟨kk, aa, nn, f, g, hcs, hbd, hkk, haa, hnn⟩ : ∃ (kk aa nn : Int) (f : ArT) (g : Ad), cs.toList = [.int .i64 kk, .int .i64 aa, .int .i64 nn, .int .i64 f.a, .int .i64 f.b, .int .i64 f.c, .int .i64 f.d, .int .i64 g.1, .int .i64 g.2] /\ (I64 f.a /\ I64 f.b /\ I64 f.c /\ I64 f.d /\ I64 g.1 /\ I64 g.2) /\ I64 kk /\ I64 aa /\ I64 nn := by
  obtain ⟨fu, hf⟩ := h2;exact yyB (by simpa [Value.cells] using hf)
 obtain rfl : cs = #[.int .i64 kk, .int .i64 aa, .int .i64 nn, .int .i64 f.a, .int .i64 f.b, .int .i64 f.c, .int .i64 f.d, .int .i64 g.1, .int .i64 g.2] := by cases cs; simp_all
 clear hcs;have hT : Tabs W := tabs_of hL;clear hA0 hval0 hval hA hz hz3 hZ;simp only [List.append_nil, List.append_assoc] at hW';have hlt : ∀ x ∈ p1 ++ (p2 ++ p3), x.block < W.heap.size := fun x hx => by simpa using hW'.lt x (by simpa using hx)
 have harg1 : ∀ W', Xt W W' -> DataW.Trod enc Tryz.prog W' 0 (fun b => decide (b < W.heap.size)) true 22 _ d1 p1 := fun W' hx =>
  Below.trod Tryz.laidOut' (by kernel_rfl) (of_decide_eq_true (by kernel_rfl)) h1 hx (fun x hx => hlt x (by simp [hx]))
 have harg2 : ∀ W', Xt W W' -> DataW.Trod enc Tryz.prog W' 0 (fun b => decide (b < W.heap.size)) true 28 _ d2 p2 := fun W' hx =>
  Below.trod Tryz.laidOut' (by kernel_rfl) (of_decide_eq_true (by kernel_rfl)) h2 hx (fun x hx => hlt x (by simp [hx]))
 have harg3 : ∀ W', Xt W W' -> DataW.Trod enc Tryz.prog W' 0 (fun b => decide (b < W.heap.size)) true 22 _ d3 p3 := fun W' hx =>
  Below.trod Tryz.laidOut' (by kernel_rfl) (of_decide_eq_true (by kernel_rfl)) h3 hx (fun x hx => hlt x (by simp [hx]))
 refine (moveApart_any l v1 ⟨kk, aa, nn, f, g⟩ m v3 W hT hl hls hkk hm hms).mono fun e W' ⟨he, hx⟩ => ?_;subst he;exact ⟨_, rfl, _, _, _, [], _, [], hW', trodAll_mk1 (shut_bool Tryz.underlying4 _), trodAll_cons_mk (harg1 W' hx) (trodAll_cons_mk (harg2 W' hx) (trodAll_cons_mk (harg3 W' hx) trodAll_mk0)), rfl, Below.frame hx _, fun h => by cases h⟩
theorem rw_ : Rows.MoveApartSaid :=
 OpenClaim.holds_of_wide 5 Tryz.f5 rfl rfl rfl rfl rfl rfl rfl ⟨rfl, rfl, rfl, rfl, rfl⟩ rfl rfl rfl rfl rfl (by kernel_rfl) Tryz.func5 (by kernel_rfl)
  (of_decide_eq_true (by kernel_rfl)) (by unfold Func.isWrapper; rw [if_neg (of_decide_eq_false (by kernel_rfl))]; exact ⟨rfl, rfl⟩)
  (fun os started H enc _ => lf os started H enc)
theorem moveApart_holds : Rows.MoveApartCardSaid :=
 Claim7.holds_tied_plain_at .later [] [.data, .pinned] true _ true
  rw_ (fun _ h => by cases h) (by kernel_rfl) (fun _ h => by cases h) moveApart_row_tie rfl ⟨rfl, rfl⟩ (by kernel_rfl) rfl
  (fun f fn hf hfn => by
   obtain rfl : f = 5 := i_ ((show Tryz.prog.funcNamed "quadrille/quadrillelaw22.MoveApart" = some 5 by kernel_rfl).symm.trans hf) |>.symm
   obtain rfl : fn = Tryz.f5 := (i_ (Tryz.func5.symm.trans hfn)).symm;exact ⟨by kernel_rfl, fun j t ht => by
    rw [Tryz.params5] at ht;have h3 : t = 22 \/ t = 28 := by
     rcases j with _ | _ | _ | j
     . exact Or.inl (by simpa using ht.symm)
     . exact Or.inr (by simpa using ht.symm)
     . exact Or.inl (by simpa using ht.symm)
     . simp at ht
    rcases h3 with rfl | rfl
    . exact (show Tryz.prog.wantsStandIn 22 = false by kernel_rfl)
    . exact (show Tryz.prog.wantsStandIn 28 = false by kernel_rfl)⟩)
  (by kernel_rfl)
end
end Go.Proofs.YtdoeejhdenifpaaGreatDoor
