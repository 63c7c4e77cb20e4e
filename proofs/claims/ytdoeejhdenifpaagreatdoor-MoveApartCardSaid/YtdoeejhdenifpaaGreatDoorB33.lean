import Derived.Test.YtdoeejhdenifpaaGreatDoorB29
import Derived.Test.YtdoeejhdenifpaaGreatDoorB30
import Derived.Deep.MidRow
import Derived.RangeFuncWrites
import Derived.StillTailTactics
set_option maxRecDepth 100000
set_option maxHeartbeats 16000000
namespace Go.Proofs.YtdoeejhdenifpaaGreatDoor
section
open Go.RowKit Go.Sort
structure Head (h : NodeT -> NodeT) : Prop where
 form : ∀ t, h t = lostT \/ ∃ r q, h t = .mk t.kind t.op t.x t.s t.b t.f r q t.args
 other : ∀ k o x s b f r q l, k ≠ 5 -> k ≠ 6 -> h (.mk k o x s b f r q l) = .mk k o x s b f r q l
 copy : ∀ k o x s b f r q l, h (.mk k o (oneX x) s b f r q (jEz l)) = copyT (h (.mk k o x s b f r q l))
 fault : ∀ k o x s b f r q ins, k = 5 \/ k = 6 -> yG3 (.mk k o x s b f r q []) ins = 0 -> yG3 (h (.mk k o x s b f r q [])) ins = 0 /\ zAv (h (.mk k o x s b f r q [])) = zAv (.mk k o x s b f r q [])
section
variable {h : NodeT -> NodeT}
mutual
theorem upT_ok (H : Head h) : ∀ t : NodeT, t.ok -> (upT h t).ok
 | .mk k o x s b f r q l, hk => by
  rw [upT];rcases H.form (.mk k o x s b f r q (upL h l)) with e | ⟨r', q', e⟩
  . rw [e]; exact zxk
  . rw [e]; exact ⟨hk.1, hk.2.1, upL_ok H l hk.2.2⟩
theorem upL_ok (H : Head h) : ∀ l : List NodeT, okL l -> okL (upL h l)
 | [], _ => trivial
 | t :: l, hk => ⟨upT_ok H t hk.1, upL_ok H l hk.2⟩
end
mutual
theorem zoG (H : Head h) : ∀ t : NodeT, yQE t -> yQE (upT h t)
 | .mk k o x s b f r q l, hk => by
  rw [upT];rcases H.form (.mk k o x s b f r q (upL h l)) with e | ⟨r', q', e⟩
  . rw [e]; exact zdC
  . rw [e];have h1 := zB1 hk;exact ⟨by rw [NodeT.args, jVB]; exact h1.1, zPl H l h1.2⟩
theorem zPl (H : Head h) : ∀ l : List NodeT, joP l -> joP (upL h l)
 | [], _ => trivial
 | t :: l, hk => ⟨zoG H t hk.1, zPl H l hk.2⟩
end
mutual
theorem y2F (H : Head h) : ∀ t : NodeT, upT h (copyT t) = copyT (upT h t)
 | .mk k o x s b f r q l => by
  rw [copyT, upT, upT, zzu H l, H.copy]
theorem zzu (H : Head h) : ∀ l : List NodeT, upL h (jEz l) = jEz (upL h l)
 | [] => rfl
 | t :: l => by rw [jEz, upL, upL, jEz, y2F H t, zzu H l]
end
mutual
theorem jCd (H : Head h) : ∀ (t : NodeT) (ins : Bool), yG3 t ins = 0 -> yG3 (upT h t) ins = 0 /\ zAv (upT h t) = zAv t
 | .mk k o x s b f r q l, ins, hf => by
  rcases yAj hf with ⟨hk, rfl, _⟩ | ⟨h5, h6, hL⟩
  . rw [upT, upL];exact H.fault k o x s b f r q ins hk hf
  . rw [upT, H.other _ _ _ _ _ _ _ _ _ h5 h6];obtain ⟨q1, q2⟩ := zsg H l (k == 9) hL;have hlen : (upL h l).length = l.length := jVB h l;rw [yG3] at hf;by_cases hm : zGb (.mk k o x s b f r q l) = true
    . rw [if_pos hm] at hf;have hm' := zcJ (l' := upL h l) hlen hm;rw [if_neg (by simpa using h5), if_neg (by simpa using h6)] at hf;constructor
      . rw [yG3, if_pos hm', if_neg (by simpa using h5), if_neg (by simpa using h6), hlen, q1];rw [hL] at hf;exact hf
      . rw [zAv, zAv, q2]
    . rw [if_neg hm] at hf; omega
theorem zsg (H : Head h) : ∀ (l : List NodeT) (c : Bool), ziB l c = 0 -> ziB (upL h l) c = 0 /\ ∀ n d, jHU (upL h l) n d = jHU l n d
 | [], _, _ => ⟨by rw [upL, ziB], fun n d => by rw [upL]⟩
 | t :: l, c, hf => by
  rw [ziB] at hf;split at hf
  . rename_i e;obtain ⟨q1, q2⟩ := jCd H t c e;obtain ⟨q3, q4⟩ := zsg H l c hf;constructor
    . rw [upL, ziB, if_pos q1]; exact q3
    . intro n d;rw [upL, jHU, jHU, q2]; exact q4 _ _
  . rename_i e; exact absurd hf e
end
mutual
theorem up_same (H : Head h) (hs : ∀ x, okN x -> x.kind = 5 \/ x.kind = 6 -> h x = x) : ∀ (t : NodeT) (ins : Bool), yG3 t ins = 0 -> upT h t = t
 | .mk k o x s b f r q l, ins, hf => by
  rcases yAj hf with ⟨hk, rfl, hn⟩ | ⟨h5, h6, hL⟩
  . rw [upT, upL]; exact hs _ hn hk
  . rw [upT, H.other _ _ _ _ _ _ _ _ _ h5 h6, js8 H hs l _ hL]
theorem js8 (H : Head h) (hs : ∀ x, okN x -> x.kind = 5 \/ x.kind = 6 -> h x = x) : ∀ (l : List NodeT) (c : Bool), ziB l c = 0 -> upL h l = l
 | [], _, _ => rfl
 | t :: l, c, hf => by
  obtain ⟨h1, h2⟩ := zJm hf;rw [upL, up_same H hs t c h1, js8 H hs l c h2]
end
theorem j7Z (H : Head h) {t : NodeT} (hc : ywH t = 0) : ywH (upT h t) = 0 := by
 obtain ⟨q1, q2⟩ := jCd H t false (jAT hc);unfold ywH at *;rw [q2, q1];split at hc
 . omega
 . rename_i e1;rw [if_neg e1];split at hc
   . omega
   . rename_i e2;rw [if_neg e2]
def zpK (h : NodeT -> NodeT) (c : ContT) : ContT := if c.kind = 2 then ⟨c.kind, c.v, upT h (copyT c.t)⟩ else c
theorem y4M (H : Head h) {c : ContT} (hc : c.ok) : (zpK h c).ok := by
 unfold zpK;split
 . exact ⟨hc.1, upT_ok H _ (zKI _ hc.2.1), hc.2.2⟩
 . exact hc
theorem zZy (H : Head h) {c : ContT} (hc : yQE c.t) : yQE (zpK h c).t := by
 unfold zpK;split
 . exact zoG H _ (jXA _ hc)
 . exact hc
theorem y6e (H : Head h) {c : ContT} (hc : yQy c = true) : yQy (zpK h (jNS c)) = true := by
 have h2 : yQy (jNS c) = true := (yuh c).trans hc;unfold zpK;split
 . rename_i hk;unfold yQy at h2 ⊢;simp only [hk, Int.reduceBEq, Bool.false_eq_true, if_false, if_true, Bool.and_eq_true] at h2 ⊢;refine ⟨h2.1, ?_⟩;have h3 : ywH (jNS c).t = 0 := (by simpa using h2.2);have h4 : ywH (copyT (jNS c).t) = 0 := by
    have : copyT (jNS c).t = (jNS c).t := yM2 c.t;rw [this]; exact h3
   simpa using j7Z H h4
 . exact h2
theorem jZ4 (h : NodeT -> NodeT) (c : ContT) : (zpK h c).kind = c.kind := by unfold zpK; split <;> rfl
theorem j2e (H : Head h) (c : ContT) : jNS (zpK h (jNS c)) = zpK h (jNS c) := by
 unfold zpK;split
 . show ContT.mk _ _ _ = ContT.mk _ _ _
   have e1 : copyT (upT h (copyT (jNS c).t)) = upT h (copyT (jNS c).t) := by
    rw [<- y2F H, yM2]
   have e2 : ({ (jNS c).v with x := oneX (jNS c).v.x } : ValT) = (jNS c).v := by
    have := ydh c;exact congrArg ContT.v this
   simp only [e1, e2]
 . exact ydh c
theorem contH_1 {c : ContT} (hk : c.kind ≠ 2) : zpK h c = c := by unfold zpK; rw [if_neg hk]
end
theorem shR_of {cc rr : Int} {x : RefT} (h : shB cc rr x = true) : shR cc rr x = ⟨shA cc rr x, x.cf, x.rf⟩ := by unfold shR; rw [if_pos h]
theorem zGW {cc rr : Int} {x : RefT} (h : shB cc rr x = true) : y8L (shR cc rr x).a.1 (shR cc rr x).a.2 = true := by
 rw [shR_of h];unfold shB at h;simp only [Bool.and_eq_true] at h;exact h.2
theorem lohi_ok {p q : RefT} (hp : y8L p.a.1 p.a.2 = true) (hq : y8L q.a.1 q.a.2 = true) : (y8L (loR p q).a.1 (loR p q).a.2 && y8L (hiR p q).a.1 (hiR p q).a.2 && decide ((loR p q).a.1 <= (hiR p q).a.1) && decide ((loR p q).a.2 <= (hiR p q).a.2)) = true := by
 have h1 := yO7 hp;have h2 := yO7 hq;have v1 : y8L (loR p q).a.1 (loR p q).a.2 = true := zDL (by unfold loR; simp only; split <;> split <;> omega);have v2 : y8L (hiR p q).a.1 (hiR p q).a.2 = true := zDL (by unfold hiR; simp only; split <;> split <;> omega);rw [v1, v2];simp only [Bool.true_and, Bool.and_eq_true, decide_eq_true_eq];unfold loR hiR;simp only;constructor <;> split <;> omega
theorem yVc (cc rr : Int) : Head (shH cc rr) := by
 constructor
 . intro t;obtain ⟨k, o, x, s, b, f, r, q, l⟩ := t;rw [shH];by_cases h5 : k = 5
   . rw [if_pos h5];by_cases h : shB cc rr r = true
     . rw [if_pos h]; exact Or.inr ⟨_, _, rfl⟩
     . rw [if_neg h]; exact Or.inl rfl
   . rw [if_neg h5];by_cases h6 : k = 6
     . rw [if_pos h6];by_cases h : shB cc rr r = true
       . rw [if_pos h];by_cases g : shB cc rr q = true
         . rw [if_pos g]; exact Or.inr ⟨_, _, rfl⟩
         . rw [if_neg g]; exact Or.inl rfl
       . rw [if_neg h]; exact Or.inl rfl
     . rw [if_neg h6]; exact Or.inr ⟨_, _, rfl⟩
 . intro k o x s b f r q l h5 h6;rw [shH, if_neg h5, if_neg h6]
 . intro k o x s b f r q l;rw [shH, shH];by_cases h5 : k = 5
   . rw [if_pos h5, if_pos h5];by_cases h : shB cc rr r = true
     . rw [if_pos h, if_pos h]; rfl
     . rw [if_neg h, if_neg h, yIj]
   . rw [if_neg h5, if_neg h5];by_cases h6 : k = 6
     . rw [if_pos h6, if_pos h6];by_cases h : shB cc rr r = true
       . rw [if_pos h, if_pos h];by_cases g : shB cc rr q = true
         . rw [if_pos g, if_pos g]; rfl
         . rw [if_neg g, if_neg g, yIj]
       . rw [if_neg h, if_neg h, yIj]
     . rw [if_neg h6, if_neg h6]; rfl
 . intro k o x s b f r q ins hk hf;rw [yG3] at hf;by_cases hm : zGb (.mk k o x s b f r q []) = true
   . rw [if_pos hm] at hf;rw [shH];by_cases h5 : k = 5
     . subst h5;obtain ⟨_, hm'⟩ := zNy (r' := shR cc rr r) hm;rw [if_pos rfl];by_cases h : shB cc rr r = true
       . rw [if_pos h];refine ⟨?_, rfl⟩;rw [yG3, if_pos hm', if_pos (by rfl), if_pos (zGW h), ziB]
       . rw [if_neg h];exact ⟨yfj ins, rfl⟩
     . have h6 : k = 6 := by rcases hk with e | e; exact absurd e h5; exact e
       subst h6;rw [if_neg (by decide), if_pos (by rfl)] at hf;obtain ⟨_, hm'⟩ := zby (r' := loR (shR cc rr r) (shR cc rr q)) (q' := hiR (shR cc rr r) (shR cc rr q)) hm;rw [if_neg (by decide), if_pos rfl];by_cases h : shB cc rr r = true
       . rw [if_pos h];by_cases g : shB cc rr q = true
         . rw [if_pos g];refine ⟨?_, rfl⟩;rw [yG3, if_pos hm', if_neg (by decide), if_pos (by rfl), if_pos (lohi_ok (zGW h) (zGW g))];cases ins
           . split at hf
             . exact hf
             . omega
           . rfl
         . rw [if_neg g]; exact ⟨yfj ins, rfl⟩
       . rw [if_neg h];exact ⟨yfj ins, rfl⟩
   . rw [if_neg hm] at hf; omega
def shC (cc rr : Int) (c : ContT) : ContT := zpK (shH cc rr) c
theorem all15s (u : NodeT) (a : Option Addr) (n c : Nat) : (nodeC u (.slice a n c)).toArray.all (·.oneCell') = true := n_ (jrw u _ rfl)
theorem ymO (cc rr : Int) (n : Nat) (t : NodeT) (a : Option Addr) (cap : Nat) (w : World) (hok : t.ok) (hT : Tabs w) (hsm : yQE t) (hin : ArgsIn w n (.slice a t.args.length cap) t.args) (hc : ywH t = 0) :
    Calls Tryz.prog 112 #[jSk t a t.args.length cap, .int .i64 cc, .int .i64 rr] w fun e w' => ∃ a2 c2, e = .returned (.tuple #[jSk (upT (shH cc rr) (copyT t)) a2 (upT (shH cc rr) (copyT t)).args.length c2, .int .i64 0]) /\ SepIn (fun b => w.heap.size <= b /\ b < w'.heap.size) w' n (.slice a2 (upT (shH cc rr) (copyT t)).args.length c2) (upT (shH cc rr) (copyT t)).args /\ Xt w w' := by
 obtain ⟨k, o, x, s, bb, f, ⟨⟨r1, r2⟩, rc, rf⟩, ⟨⟨q1, q2⟩, qc, qf⟩, l⟩ := t;simp only [NodeT.args] at hin;obtain ⟨B, hB⟩ := e_ w.heap.size;have HBw := h_ hB;obtain ⟨w0, hw0⟩ := e_ (w.alloc (.cells (rM k o x s bb f r1 r2 rc rf q1 q2 qc qf (.slice a l.length cap)) 49));have hs0 : w0.heap.size = B + 1 := by rw [<- hw0, <- hB]; simp
 obtain ⟨w1, hw1⟩ := e_ (w0.alloc (.cells zN 49));have hs1 : w1.heap.size = B + 1 + 1 := (by rw [<- hw1]; simp [hs0]);have hx1 : Xt w w1 := by rw [<- hw1, <- hw0]; exact ((Xt.refl _).alloc _).alloc _
 have hr0 : w1.heap[B]? = some (.cells (rM k o x s bb f r1 r2 rc rf q1 q2 qc qf (.slice a l.length cap)) 49 (0, 0)) := rowX (w := w0) (by rw [<- hw1]; exact (Xt.refl _).alloc _) (by rw [<- hw0, <- hB]; exact (a_ w _).1);have hr1 : w1.heap[B + 1]? = some (.cells zN 49 (0, 0)) := by rw [<- hw1, <- hs0]; exact (a_ w0 _).1
 have HX1 := h_ hx1;have HR0 := h_ hr0;have HR1 := h_ hr1;have HSM := h_ hsm;have HIN := h_ hin;have HCH := h_ (znR n (.mk k o x s bb f ⟨(r1, r2), rc, rf⟩ ⟨(q1, q2), qc, qf⟩ l) a cap w1 hok (hT.xt hx1) (hin.xt hx1));rw [hc] at HCH;have HC0 := h_ (yiJ n (.mk k o x s bb f ⟨(r1, r2), rc, rf⟩ ⟨(q1, q2), qc, qf⟩ l) a cap);obtain ⟨r, hr⟩ := e_ (upT (shH cc rr) (copyT (.mk k o x s bb f ⟨(r1, r2), rc, rf⟩ ⟨(q1, q2), qc, qf⟩ l)));rw [hr];have HRS := h_ hr;have hm1 : True := trivial;clear hok hT hsm hin hx1 hr0 hr1 hc hr
 change Calls Tryz.prog 112 #[.agg (rM k o x s bb f r1 r2 rc rf q1 q2 qc qf (.slice a l.length cap)), .int .i64 cc, .int .i64 rr] w _;go_enter Tryz.func112, Tryz.ntmps112;go_wp2_with (first
  | (have hm0 := hm1; refine x_ (P := Tryz.prog) rfl 49 _ rfl B rfl 49 _ (0, 0) _ HR0.out Tryz.underlying49 rfl (by kernel_rfl) ?_; clear hm1 hm0)
  | (go_at_call 102; refine (HCH.out).mono ?_; rintro e w2 ⟨rfl, hx2⟩; have HX2 := h_ hx2; clear hx2)
  | (refine x_ (P := Tryz.prog) rfl 49 _ rfl B rfl 49 _ (0, 0) _ (rowX HX2.out HR0.out) Tryz.underlying49 rfl (by kernel_rfl) ?_)
  | (go_at_call 76; refine (HC0.out w2 HSM.out (HIN.out.xt (HX1.out.trans HX2.out))).mono ?_; rintro e w3 ⟨a', rfl, hS3, hx3⟩; have HX3 : Hid (Xt w1 w3) := HX2.out.trans hx3; have hsz2 := HX2.out.size; have hsz3 := hx3.size; have HSH := h_ (yrJ cc rr n (fun b => w2.heap.size <= b /\ b < w3.heap.size) (copyT (.mk k o x s bb f ⟨(r1, r2), rc, rf⟩ ⟨(q1, q2), qc, qf⟩ l)) a' l.length w3 (fun b hb => hb.2) (by rw [copyT_len, zH4]; exact hS3)); rw [copyT_len, HRS.out] at HSH; clear hx3 hS3)
  | (go_at_call 145; refine (HSH.out).mono ?_; rintro e w4 ⟨a2, c2, rfl, hS4, hW4⟩; have HX4 : Hid (Xt w1 w4) := hW4.xt HX3.out (fun b hb => by have := hb.1; omega); have HS4 := h_ hS4; have hsz4 := hW4.size; clear hW4 hS4)
  | (refine w_ (P := Tryz.prog) rfl 49 _ _ rfl (B + 1) (nodeC r (.slice a2 r.args.length c2)).toArray rfl rfl 49 _ (rowX HX4.out HR1.out) (by kernel_rfl) (by kernel_rfl) (all15s r a2 r.args.length c2) ?_))
 (try simp only [Exit.inBlock, Exit.then])
 refine p_ (v := .tuple #[.agg (nodeC r (.slice a2 r.args.length c2)).toArray, .int .i64 0]) ?_ rfl ?_
 . rw [results_cell_tmp rfl]
   show ((asAddr (v_ (B + 1))).run _ _).andThen _ = _
   simp only [asAddr, Sem.run_pure, Result.andThen_ok, l_ _ _ _ 49 (nodeC r (.slice a2 r.args.length c2)).toArray _ _ (setRow_heap _ _ _ _ _ _ (rowX HX4.out HR1.out)) Tryz.underlying49 rfl (by kernel_rfl)];rfl
 . refine ⟨a2, c2, rfl, ?_, ?_⟩
   . have hBw := HBw.out;have hA2 := HX1.out.size;refine (HS4.out.keep (fun b hb hlt => setRow_other _ _ _ _ (by have := hb.1; omega))).weak (fun b hb hlt => ⟨by have := hb.1; omega, hlt⟩)
   . exact (HX1.out.trans HX4.out).grownB (jGX _ _ _) (fun q hq => by cases hq; have := HBw.out; omega)
structure Mv (f gl : ArT) (cc rr : Int) : Prop where
 x0 : 1 <= f.a
 x1 : f.a <= f.c
 x2 : f.c <= 12
 y0 : 1 <= f.b
 y1 : f.b <= f.d
 y2 : f.d <= 12
 e : gl = ⟨f.a + cc, f.b + rr, f.c + cc, f.d + rr⟩
 u0 : 1 <= f.a + cc
 u1 : f.c + cc <= 12
 v0 : 1 <= f.b + rr
 v1 : f.d + rr <= 12
theorem Mv.back {f gl : ArT} {cc rr : Int} (h : Mv f gl cc rr) : Mv gl f (-cc) (-rr) := by
 obtain ⟨x0, x1, x2, y0, y1, y2, e, u0, u1, v0, v1⟩ := h;subst e;obtain ⟨a, b, c, d⟩ := f;simp only at *;refine ⟨by simp only; omega, by simp only; omega, by simp only; omega, by simp only; omega, by simp only; omega, by simp only; omega, ?_, by simp only; omega, by simp only; omega, by simp only; omega, by simp only; omega⟩;have e1 : a + cc + -cc = a := (by omega);have e2 : b + rr + -rr = b := (by omega);have e3 : c + cc + -cc = c := (by omega);have e4 : d + rr + -rr = d := (by omega);simp only [e1, e2, e3, e4]
theorem w64 {x : Int} (h0 : -9223372036854775808 <= x) (h1 : x <= 9223372036854775807) : wrap64 x = x := by unfold wrap64; omega
theorem jwW {a b : Int} (h : 1 <= a /\ a <= 256 /\ 1 <= b /\ b <= 4096) : y8L a b = true := by
 unfold y8L;simp only [Bool.and_eq_true, decide_eq_true_eq];exact ⟨⟨⟨h.1, h.2.1⟩, h.2.2.1⟩, h.2.2.2⟩
theorem vA_o2 {x : ArT} (h : (1 <= x.a /\ x.a <= x.c /\ x.c <= 256) /\ (1 <= x.b /\ x.b <= x.d /\ x.d <= 4096)) : vA x = true := by
 unfold vA;simp only [Bool.and_eq_true, decide_eq_true_eq];exact ⟨⟨⟨jwW (by omega), jwW (by omega)⟩, by omega⟩, by omega⟩
theorem Mv.vf {f gl : ArT} {cc rr : Int} (h : Mv f gl cc rr) : vA f = true := vA_o2 (by have := h.x0; have := h.x1; have := h.x2; have := h.y0; have := h.y1; have := h.y2; omega)
theorem Mv.inf {f gl : ArT} {cc rr : Int} (h : Mv f gl cc rr) (a : Ad) : inA f a = true ↔ f.a <= a.1 /\ a.1 <= f.c /\ f.b <= a.2 /\ a.2 <= f.d :=
 ⟨fun e => (yL5 e).2, fun e => jpX h.vf e⟩
theorem Mv.ing {f gl : ArT} {cc rr : Int} (h : Mv f gl cc rr) (a : Ad) : inA gl a = true ↔ f.a + cc <= a.1 /\ a.1 <= f.c + cc /\ f.b + rr <= a.2 /\ a.2 <= f.d + rr := by
 have := h.back.inf a;rw [this, h.e]
theorem Mv.far {f gl : ArT} {cc rr : Int} (h : Mv f gl cc rr) : -12 <= cc /\ cc <= 12 /\ -12 <= rr /\ rr <= 12 := by
 have := h.x0; have := h.x1; have := h.x2; have := h.y0; have := h.y1; have := h.y2; have := h.u0; have := h.u1; have := h.v0; have := h.v1; omega
theorem Mv.mov {f gl : ArT} {cc rr : Int} (h : Mv f gl cc rr) {a : Ad} (ha : 1 <= a.1 /\ a.1 <= 4096 /\ 1 <= a.2 /\ a.2 <= 4096) : movG cc rr a = (a.1 + cc, a.2 + rr) := by
 have := h.far;unfold movG;rw [w64 (by omega) (by omega), w64 (by omega) (by omega)]
theorem Mv.mov_in {f gl : ArT} {cc rr : Int} (h : Mv f gl cc rr) {a : Ad} (ha : inA f a = true) : movG cc rr a = (a.1 + cc, a.2 + rr) /\ inA gl (a.1 + cc, a.2 + rr) = true := by
 have h1 := (h.inf a).1 ha;have := h.x0; have := h.x2; have := h.y0; have := h.y2;exact ⟨h.mov (by omega), (h.ing _).2 (by simp only; omega)⟩
theorem j9K {f gl : ArT} {cc rr : Int} {a : Ad} (ha : inA f a = true) : mvC f gl cc rr a = (movG cc rr a, true) := by unfold mvC; rw [if_pos ha]
theorem joD {f gl : ArT} {cc rr : Int} {a : Ad} (ha : ¬ inA f a = true) : mvC f gl cc rr a = (a, !inA gl a) := by unfold mvC; rw [if_neg ha]
theorem Mv.road {f gl : ArT} {cc rr : Int} (h : Mv f gl cc rr) : RoadV (mvC f gl cc rr) (mvA f gl cc rr) := by
 constructor
 . intro a hv ho;by_cases ha : inA f a = true
   . rw [j9K ha, (h.mov_in ha).1];have h2 := (h.ing _).1 (h.mov_in ha).2;simp only at h2 ⊢;have := h.u0; have := h.u1; have := h.v0; have := h.v1;exact jwW (by omega)
   . rw [joD ha]; exact hv
 . intro x hv ho;have v := zJx hv;unfold mvA;by_cases hw : yLa x f = true
   . rw [if_pos hw];unfold yLa at hw;simp only [Bool.and_eq_true] at hw;obtain ⟨e1, i1⟩ := h.mov_in hw.1;obtain ⟨e2, i2⟩ := h.mov_in hw.2;have j1 := (h.ing _).1 i1;have j2 := (h.ing _).1 i2;have := h.u0; have := h.u1; have := h.v0; have := h.v1;simp only [e1, e2] at *;exact vA_o2 (by simp only; omega)
   . rw [if_neg hw]; exact hv
theorem Mv.inj {f gl : ArT} {cc rr : Int} (h : Mv f gl cc rr) {a b : Ad} (oa : (mvC f gl cc rr a).2 = true) (ob : (mvC f gl cc rr b).2 = true) (he : (mvC f gl cc rr a).1 = (mvC f gl cc rr b).1) : a = b := by
 by_cases ha : inA f a = true
 . by_cases hb : inA f b = true
   . rw [j9K ha, j9K hb] at he;simp only [(h.mov_in ha).1, (h.mov_in hb).1, Prod.mk.injEq] at he;exact Prod.ext (by omega) (by omega)
   . rw [joD hb] at ob he;rw [j9K ha] at he;simp only [(h.mov_in ha).1] at he;have := (h.mov_in ha).2;rw [he] at this;simp [this] at ob
 . by_cases hb : inA f b = true
   . rw [joD ha] at oa he;rw [j9K hb] at he;simp only [(h.mov_in hb).1] at he;have := (h.mov_in hb).2;rw [<- he] at this;simp [this] at oa
   . rw [joD ha, joD hb] at he;exact he
theorem j4d (cG : Ad -> Ad × Bool) (aG : ArT -> ArT × Bool) (l : PG) : yan cG aG l = allP [] (goP cG aG l) := by
 refine yqn (P := fun l => yan cG aG l = allP [] (goP cG aG l)) rfl (fun l x ih => ?_) l;rw [jon, ih, ycG];unfold y44;split
 . rw [zeT]
 . rfl
theorem yrM : ∀ {l : List (Ad × ContT)}, (∀ x ∈ l, y8L x.1.1 x.1.2 = true /\ yQy x.2 = true /\ (x.2.kind == 0) = false /\ jNS x.2 = x.2 /\ x.2.ok) -> (l.map (·.1)).Nodup -> l.length <= 4096 -> yJ0 (allP [] l) /\ (allP [] l).Perm l := by
 intro l;refine yqn (P := fun l => (∀ x ∈ l, y8L x.1.1 x.1.2 = true /\ yQy x.2 = true /\ (x.2.kind == 0) = false /\ jNS x.2 = x.2 /\ x.2.ok) -> (l.map (·.1)).Nodup -> l.length <= 4096 -> yJ0 (allP [] l) /\ (allP [] l).Perm l) ?_ ?_ l
 . exact fun _ _ _ => ⟨List.Pairwise.nil, List.Perm.refl _⟩
 . intro l x ih hm hn hl;rw [List.map_append, List.nodup_append] at hn;obtain ⟨h1, h2⟩ := ih (fun y hy => hm y (List.mem_append_left _ hy)) hn.1 (by simp at hl; omega);have hno : lkM x.1 (allP [] l) = none := lkM_none.2 fun y hy e => hn.2.2 y.1 (List.mem_map.2 ⟨y, h2.mem_iff.1 hy, rfl⟩) x.1 (by simp) e;have hlen : (allP [] l).length < 4096 := (by have := h2.length_eq; simp at hl; omega);obtain ⟨_, hp⟩ := put_new hno hlen (hm x (by simp));rw [zeT, hp];exact ⟨zDO _ _ h1, (zd2 hno).trans ((h2.cons x).trans (List.perm_append_singleton x l).symm)⟩
section
variable {f gl : ArT} {cc rr : Int} {g : PG}
theorem Mv.each (h : Mv f gl cc rr) (hg : GOk g) : ∀ x ∈ goP (mvC f gl cc rr) (mvA f gl cc rr) g, y8L x.1.1 x.1.2 = true /\ yQy x.2 = true /\ (x.2.kind == 0) = false /\ jNS x.2 = x.2 /\ x.2.ok := by
 intro y hy;obtain ⟨z, hz, rfl⟩ := List.mem_map.1 hy;obtain ⟨hz1, hz2⟩ := List.mem_filter.1 hz;obtain ⟨v1, v2, v3, v4, v5⟩ := hg.each z hz1;exact ⟨h.road.cell _ v1 hz2, zSB h.road v2, by rw [zle]; exact v3, ym8 _ _ z.2, yFU (jvQ v5)⟩
theorem Mv.perm (h : Mv f gl cc rr) (hg : GOk g) : yJ0 (yan (mvC f gl cc rr) (mvA f gl cc rr) g) /\ (yan (mvC f gl cc rr) (mvA f gl cc rr) g).Perm (goP (mvC f gl cc rr) (mvA f gl cc rr) g) := by
 rw [j4d];refine yrM (h.each hg) ?_ ?_
 . unfold goP List.Nodup;rw [List.map_map, List.pairwise_map, List.pairwise_filter];refine hg.sorted.imp_of_mem fun {a b} ha hb hl oa ob e => ?_;have := h.inj oa ob e;rw [this, jZs] at hl; cases hl
 . have : (goP (mvC f gl cc rr) (mvA f gl cc rr) g).length <= g.length := (by unfold goP; rw [List.length_map]; exact List.length_filter_le ..);have := hg.many;omega
theorem Mv.ok (h : Mv f gl cc rr) (hg : GOk g) : GOk (yan (mvC f gl cc rr) (mvA f gl cc rr) g) := by
 obtain ⟨h1, h2⟩ := h.perm hg;refine ⟨h1, ?_, fun x hx => h.each hg x (h2.mem_iff.1 hx)⟩;have : (goP (mvC f gl cc rr) (mvA f gl cc rr) g).length <= g.length := (by unfold goP; rw [List.length_map]; exact List.length_filter_le ..);have := hg.many;have := h2.length_eq;omega
theorem yrz {l k : PG} (h : l.Perm k) : j6I l = j6I k := by
 induction h with
 | nil => rfl
 | cons x _ ih => rw [j6I, j6I, ih]
 | swap x y l => rw [j6I, j6I, j6I, j6I]; omega
 | trans _ _ i1 i2 => exact i1.trans i2
theorem Mv.lost (h : Mv f gl cc rr) (hg : GOk g) (hl : (yan (mvC f gl cc rr) (mvA f gl cc rr) g).length = g.length) : j6I g <= j6I (yan (mvC f gl cc rr) (mvA f gl cc rr) g) := by
 have hp := (h.perm hg).2;rw [yrz hp];have hl2 : (goP (mvC f gl cc rr) (mvA f gl cc rr) g).length = g.length := hp.length_eq.symm.trans hl;have ha : ∀ x ∈ g, (mvC f gl cc rr x.1).2 = true := by
  unfold goP at hl2;rw [List.length_map] at hl2;exact List.filter_eq_self.1 (List.filter_sublist.eq_of_length hl2)
 exact (znd (fun x hx => ⟨znz hg x hx, ha x hx⟩)).1
theorem jxm (hb : busyP gl g = false) : ∀ x ∈ g, ¬ inA gl x.1 = true /\ ∀ y ∈ jBl x.2.t, hitN gl y = false := fun x hx => by
 unfold busyP at hb;have h1 := List.any_eq_false.1 hb x hx;simp only [Bool.or_eq_true, not_or] at h1;refine ⟨h1.1, fun y hy => Bool.eq_false_iff.2 fun e => h1.2 ?_⟩;exact List.any_eq_true.2 ⟨y, hy, e⟩
theorem Mv.cell_back (h : Mv f gl cc rr) {a : Ad} (hn : ¬ inA gl a = true) : (mvC f gl cc rr a).2 = true /\ mvC gl f (-cc) (-rr) (mvC f gl cc rr a).1 = (a, true) := by
 by_cases ha : inA f a = true
 . rw [j9K ha, (h.mov_in ha).1];refine ⟨rfl, ?_⟩;have hi := (h.mov_in ha).2;rw [j9K hi, (h.back.mov_in hi).1];refine Prod.ext (Prod.ext ?_ ?_) rfl <;> (simp only; omega)
 . rw [joD ha];refine ⟨by simp [hn], ?_⟩;rw [joD hn];simp [ha]
theorem yYm {f x : ArT} (hv : vA x = true) (hw : yLa x f = true) : z0K f x = true := by
 unfold yLa at hw;simp only [Bool.and_eq_true] at hw;obtain ⟨vf, a1, a2, a3, a4⟩ := yL5 hw.1;obtain ⟨_, b1, b2, b3, b4⟩ := yL5 hw.2;simp only at a1 a2 a3 a4 b1 b2 b3 b4;have e : meetA f x = x := by
  unfold meetA;rw [Int.max_eq_right a1, Int.max_eq_right a3, Int.min_eq_right b2, Int.min_eq_right b4]
 unfold z0K;rw [e, show vaA f = true from vf, show vaA x = true from hv]; rfl
theorem Mv.area_back (h : Mv f gl cc rr) {x : ArT} (hv : vA x = true) (hn : z0K gl x = false) : (mvA f gl cc rr x).2 = true /\ mvA gl f (-cc) (-rr) (mvA f gl cc rr x).1 = (x, true) := by
 have hw2 : ¬ yLa x gl = true := fun e => by rw [yYm hv e] at hn; cases hn
 by_cases hw : yLa x f = true
 . have hwe := hw;unfold yLa at hwe;simp only [Bool.and_eq_true] at hwe;obtain ⟨e1, i1⟩ := h.mov_in hwe.1;obtain ⟨e2, i2⟩ := h.mov_in hwe.2;have ea : mvA f gl cc rr x = (⟨x.a + cc, x.b + rr, x.c + cc, x.d + rr⟩, true) := (by unfold mvA; rw [if_pos hw, e1, e2]);rw [ea];refine ⟨rfl, ?_⟩;have hb : yLa ⟨x.a + cc, x.b + rr, x.c + cc, x.d + rr⟩ gl = true := by
    unfold yLa;rw [i1, i2]; rfl
   unfold mvA;rw [if_pos hb, (h.back.mov_in i1).1, (h.back.mov_in i2).1];obtain ⟨xa, xb, xc, xd⟩ := x;have q1 : xa + cc + -cc = xa := (by omega);have q2 : xb + rr + -rr = xb := (by omega);have q3 : xc + cc + -cc = xc := (by omega);have q4 : xd + rr + -rr = xd := (by omega);simp only [q1, q2, q3, q4]
 . have ea : mvA f gl cc rr x = (x, true) := (by unfold mvA; rw [if_neg hw]; simp [hw2]);rw [ea];refine ⟨rfl, ?_⟩;unfold mvA;rw [if_neg hw2];simp [hw]
theorem Mv.there (h : Mv f gl cc rr) (hg : GOk g) (hb : busyP gl g = false) :
    yan (mvC gl f (-cc) (-rr)) (mvA gl f (-cc) (-rr)) (yan (mvC f gl cc rr) (mvA f gl cc rr) g) = g /\ j6I (yan (mvC f gl cc rr) (mvA f gl cc rr) g) = j6I g := by
 have hbn := jxm hb;have hX := h.ok hg;obtain ⟨s1, p1⟩ := h.perm hg;obtain ⟨s2, p2⟩ := h.back.perm hX;have e := zkK (cG2 := mvC gl f (-cc) (-rr)) (aG2 := mvA gl f (-cc) (-rr)) (cG1 := mvC f gl cc rr) (aG1 := mvA f gl cc rr) (cG3 := cI) (aG3 := aI) (l := g) (fun x hx => ⟨fun ho => ⟨(h.cell_back (hbn x hx).1).2, zLy (znz hg x hx) (fun hk y hy h56 => by
  have ok := jiZ x.2.t false ((znz hg x hx).fault hk) y hy;have hh := (hbn x hx).2 y hy;unfold hitN at hh;simp only [Bool.or_eq_false_iff, Bool.and_eq_false_iff, decide_eq_false_iff_not] at hh;refine yEU h56 (fun e5 => ?_) (fun e6 => ?_)
  . have hn : ¬ inA gl y.ref.a = true := by rcases hh.1 with q | q; exact absurd e5 q; rw [q]; decide
    exact ⟨fun _ => (h.cell_back hn).2, fun hq => absurd (h.cell_back hn).1 hq⟩
  . have hn : z0K gl (arOf y.ref y.to) = false := by rcases hh.2 with q | q; exact absurd e6 q; exact q
    obtain ⟨a1, a2⟩ := h.area_back (ok.2 e6) hn;exact ⟨fun _ => a2, fun hq => absurd a1 hq⟩)⟩, fun ho => absurd (h.cell_back (hbn x hx).1).1 ho⟩)
 rw [goP_id (znz hg)] at e;refine ⟨yHg s2 hg.sorted (p2.trans ?_), ?_⟩
 . have p3 : (goP (mvC gl f (-cc) (-rr)) (mvA gl f (-cc) (-rr)) (yan (mvC f gl cc rr) (mvA f gl cc rr) g)).Perm (goP (mvC gl f (-cc) (-rr)) (mvA gl f (-cc) (-rr)) (goP (mvC f gl cc rr) (mvA f gl cc rr) g)) := by
    unfold goP;exact (p1.filter _).map _
   rw [e] at p3;exact p3
 . rw [yrz p1];have : ∀ {l : PG}, (∀ x ∈ l, okCt x.2 /\ (mvC f gl cc rr x.1).2 = true /\ ∀ y ∈ jBl x.2.t, yCP (mvC f gl cc rr) (mvA f gl cc rr) y = false) -> j6I (goP (mvC f gl cc rr) (mvA f gl cc rr) l) = j6I l := by
    intro l
    induction l with
    | nil => intro _; rfl
    | cons x l ih =>
     intro hl;obtain ⟨h1, h2, h3⟩ := hl x List.mem_cons_self;have e := zRJ (cG := mvC f gl cc rr) (aG := mvA f gl cc rr) h1;have z : zzt (mvC f gl cc rr) (mvA f gl cc rr) (jBl x.2.t) = 0 := by
      unfold zzt;rw [List.filter_eq_nil_iff.2 (fun y hy => by rw [h3 y hy]; decide)]; rfl
     rw [jQM, if_pos h2, j6I, j6I, ih (fun y hy => hl y (List.mem_cons_of_mem _ hy))];simp only;rw [h1.2.2, e, z]; omega
   refine this fun x hx => ⟨znz hg x hx, (h.cell_back (hbn x hx).1).1, fun y hy => ?_⟩;by_cases hk : x.2.kind = 2
   . have ok := jiZ x.2.t false ((znz hg x hx).fault hk) y hy;have hh := (hbn x hx).2 y hy;unfold hitN at hh;simp only [Bool.or_eq_false_iff, Bool.and_eq_false_iff, decide_eq_false_iff_not] at hh;unfold yCP;simp only [Bool.or_eq_false_iff, Bool.and_eq_false_iff, decide_eq_false_iff_not, Bool.not_eq_false'];constructor
     . by_cases e5 : y.kind = 5
       . have hn : ¬ inA gl y.ref.a = true := by rcases hh.1 with q | q; exact absurd e5 q; rw [q]; decide
         exact Or.inr (h.cell_back hn).1
       . exact Or.inl e5
     . by_cases e6 : y.kind = 6
       . have hn : z0K gl (arOf y.ref y.to) = false := by rcases hh.2 with q | q; exact absurd e6 q; exact q
         exact Or.inr (h.area_back (ok.2 e6) hn).1
       . exact Or.inl e6
   . obtain ⟨e1, e2⟩ := (znz hg x hx).plain hk;rw [e1] at hy;rw [List.mem_singleton.1 hy];have hk2 : (jXe x.2.t).kind = x.2.t.kind := (by cases x.2.t; rfl);unfold yCP;rw [hk2, e2]; rfl
end
def zRj (f : ArT) (g : PG) : PG := g.filter fun x => !inA f x.1
def inP (f : ArT) (g : PG) : PG := g.filter fun x => inA f x.1
def y1P (o : Option PG) (y : Ad) (c : ContT) : Option PG :=
 match o with
 | none => none
 | some P => if jJz P y c = 0 then some (putP P y c) else none
def jZJ (m : Ad -> Ad) (cc rr : Int) (P : PG) (l : PG) : Option PG := l.foldl (fun o x => y1P o (m x.1) (shC cc rr (jNS x.2))) (some P)
theorem zhS (m : Ad -> Ad) (cc rr : Int) (P l : PG) (x : Ad × ContT) : jZJ m cc rr P (l ++ [x]) = y1P (jZJ m cc rr P l) (m x.1) (shC cc rr (jNS x.2)) := by simp [jZJ]
theorem jvJ (m : Ad -> Ad) (cc rr : Int) (P l k : PG) (h : jZJ m cc rr P l = none) : jZJ m cc rr P (l ++ k) = none := by
 unfold jZJ at *;rw [List.foldl_append, h]
 induction k with
 | nil => rfl
 | cons x k ih => exact ih
def yTr (fr : Ad) (c : ContT) (P : PG) (l : List Ad) : Option PG := l.foldl (fun o y => y1P o y (shC (wrap64 (y.1 - fr.1)) (wrap64 (y.2 - fr.2)) (jNS c))) (some P)
theorem zVX (fr : Ad) (c : ContT) (P : PG) (l : List Ad) (y : Ad) : yTr fr c P (l ++ [y]) = y1P (yTr fr c P l) y (shC (wrap64 (y.1 - fr.1)) (wrap64 (y.2 - fr.2)) (jNS c)) := by simp [yTr]
theorem jkm (fr : Ad) (c : ContT) (P : PG) (l k : List Ad) (h : yTr fr c P l = none) : yTr fr c P (l ++ k) = none := by
 unfold yTr at *;rw [List.foldl_append, h]
 induction k with
 | nil => rfl
 | cons x k ih => exact ih
theorem jhW {o : Option PG} {y : Ad} {c : ContT} {A : PG} (h : y1P o y c = some A) : ∃ P, o = some P /\ jJz P y c = 0 /\ A = putP P y c := by
 cases o with
 | none => cases h
 | some P =>
  unfold y1P at h;simp only at h;split at h
  . rename_i e; exact ⟨P, rfl, e, (i_ h).symm⟩
  . cases h
theorem z2O {P : PG} {y : Ad} {c : ContT} (h : jJz P y c = 0) : y1P (some P) y c = some (putP P y c) := by unfold y1P; simp only; rw [if_pos h]
theorem yuy {P : PG} {y : Ad} {c : ContT} (h : jJz P y c ≠ 0) : y1P (some P) y c = none := by unfold y1P; simp only; rw [if_neg h]
theorem j5q (cc rr : Int) {c : ContT} (h : yQy c = true) : yQy (shC cc rr (jNS c)) = true := y6e (yVc cc rr) h
theorem y8s (cc rr : Int) (c : ContT) : (shC cc rr c).kind = c.kind := jZ4 _ c
theorem j00 (cc rr : Int) {c : ContT} (h : c.ok) : (shC cc rr c).ok := y4M (yVc cc rr) h
theorem z2y (cc rr : Int) {c : ContT} (h : yQE c.t) : yQE (shC cc rr c).t := zZy (yVc cc rr) h
theorem yJ4 (cc rr : Int) (c : ContT) : jNS (shC cc rr (jNS c)) = shC cc rr (jNS c) := j2e (yVc cc rr) c
theorem shC_1 (cc rr : Int) {c : ContT} (h : c.kind ≠ 2) : shC cc rr c = c := contH_1 h
theorem jgF {P : PG} {y : Ad} {c : ContT} (cc rr : Int) (hv : y8L y.1 y.2 = true) (h1 : yQy c = true) (h2 : (c.kind == 0) = false) : jJz P y (shC cc rr (jNS c)) = (if jAG P y = true then 41 else 0) /\ (jAG P y = false -> putP P y (shC cc rr (jNS c)) = setM y (shC cc rr (jNS c)) P) := by
 have hk : ((shC cc rr (jNS c)).kind == 0) = false := (by rw [y8s]; exact h2);unfold jJz putP;rw [j5q cc rr h1, hv, hk];refine ⟨by simp, fun hf => ?_⟩;rw [hf, yJ4]; simp
theorem GOk.clear {g : PG} (h : GOk g) (f : ArT) : GOk (zRj f g) := ⟨h.sorted.filter _, Nat.le_trans (List.length_filter_le ..) h.many, fun x hx => h.each x (List.mem_filter.1 hx).1⟩
section
variable {f gl : ArT} {cc rr : Int} {g : PG}
end
def yat (fr : Ad) (t : ArT) (g : PG) : Option PG := if ((lkM fr g).getD zeroC).kind = 0 then some (zRj t g) else yTr fr ((lkM fr g).getD zeroC) (zRj t g) (y1i t)
theorem zX6 {c : ContT} (h : yQy c = true) (hk : c.kind = 2) : ywH c.t = 0 := by
 unfold yQy at h;simp only [hk, Int.reduceBEq, Bool.false_eq_true, if_false, if_true, Bool.and_eq_true] at h;simpa using h.2
def byG (fr tg : Ad) : Int × Int := (wrap64 (tg.1 - fr.1), wrap64 (tg.2 - fr.2))
theorem jnh (n : Nat) (gb mb : Nat) (M : GM) (c : ContT) (a : Option Addr) (cap : Nat) (fr tg : Ad) (w : World) (hG : GridIs w gb mb M) (hT : Tabs w) (hok : c.ok) (hsm : yQE c.t) (hin : ArgsIn w n (.slice a c.t.args.length cap) c.t.args) (hv : yQy c = true) :
    Calls Tryz.prog 70 #[v_ gb, jEC c a c.t.args.length cap, .agg #[fr.1, fr.2], .agg #[tg.1, tg.2]] w (PutR w gb mb M tg (shC (byG fr tg).1 (byG fr tg).2 c)) := by
 obtain ⟨B, hB⟩ := e_ w.heap.size;have HBw := h_ hB;obtain ⟨w0, hw0⟩ := e_ (w.alloc (.cells (rQ c (.slice a c.t.args.length cap)) 51));have hs0 : w0.heap.size = B + 1 := (by rw [<- hw0, <- hB]; simp);obtain ⟨w1, hw1⟩ := e_ (w0.alloc (.cells #[fr.1, fr.2] 24))
 have hs1 : w1.heap.size = B + 1 + 1 := (by rw [<- hw1]; simp [hs0]);obtain ⟨wS, hwS⟩ := e_ (w1.alloc (.cells #[tg.1, tg.2] 24));have hx0 : Xt w0 wS := (by rw [<- hwS, <- hw1]; exact ((Xt.refl _).alloc _).alloc _);have hx1 : Xt w1 wS := (by rw [<- hwS]; exact (Xt.refl _).alloc _);have hx : Xt w wS := Xt.trans (by rw [<- hw0]; exact (Xt.refl _).alloc _) hx0
 have r0 : wS.heap[B]? = some (.cells (rQ c (.slice a c.t.args.length cap)) 51 (0, 0)) := rowX hx0 (by rw [<- hw0, <- hB]; exact (a_ w _).1);have r1 : wS.heap[B + 1]? = some (.cells #[fr.1, fr.2] 24 (0, 0)) := rowX hx1 (by rw [<- hw1, <- hs0]; exact (a_ w0 _).1)
 have r2 : wS.heap[B + 1 + 1]? = some (.cells #[tg.1, tg.2] 24 (0, 0)) := (by rw [<- hwS, <- hs1]; exact (a_ w1 _).1);have HR0 := h_ r0;have HR1 := h_ r1;have HR2 := h_ r2;have HX := h_ hx;have HG : Hid (GridIs w gb mb M) := hG;have HT := h_ hT;have HOK := h_ hok;have HSM := h_ hsm;have HIN := h_ hin;have HV := h_ hv;have c0 : wS.cell? ⟨B, 0, none⟩ = some (.int .i64 c.kind) := (by simp [World.cell?, r0]);obtain ⟨f0, f1, _, _⟩ := zxi r1;obtain ⟨t0, t1, _, _⟩ := zxi r2;have hRng : wS.rangeAt B 6 (nodeC c.t (.slice a c.t.args.length cap)) := fun j v hv => by
  have := World.rangeAt_of_block r0 6 15 j v (by simpa [nodeC] using hv);exact this
 have HRng := h_ hRng;clear r0 r1 r2 hx hx0 hx1 hG hT hok hsm hin hv hRng;go_enter Tryz.func70, Tryz.ntmps70;by_cases hk : c.kind = 2
 . have hkb : (c.kind == 2) = true := (by simpa using hk);obtain ⟨dx, hdx⟩ := e_ (wrap64 (tg.1 - fr.1));obtain ⟨dy, hdy⟩ := e_ (wrap64 (tg.2 - fr.2));have HBY := h_ (zTQ fr tg wS);rw [hdx, hdy] at HBY;have HC := h_ (fun V (hV : Xt wS V) => ymO dx dy n c.t a cap V HOK.out.2.1 (HT.out.xt (HX.out.trans hV)) HSM.out (HIN.out.xt (HX.out.trans hV)) (zX6 HV.out hk));obtain ⟨tt, htt⟩ := e_ (upT (shH dx dy) (copyT c.t));rw [htt] at HC;have HGC : Hid (shC (byG fr tg).1 (byG fr tg).2 c = ⟨c.kind, c.v, tt⟩) := by
    unfold Hid byG shC zpK;rw [if_pos hk];simp only [hdx, hdy, htt]
   have HOK2 : Hid ((⟨c.kind, c.v, tt⟩ : ContT).ok) := (by unfold Hid; rw [<- HGC.out]; exact j00 _ _ HOK.out);have HSM2 : Hid (yQE tt) := by
    unfold Hid;have := z2y (byG fr tg).1 (byG fr tg).2 HSM.out;rw [HGC.out] at this;exact this
   clear hk htt hdx hdy;have hm1 : True := trivial;go_wp2_with (first
    | (go_at_call 42; refine (HBY.out).mono ?_; rintro e w3 ⟨rfl, hg3⟩; have HX3 : Hid (Xt wS w3) := hg3.xt; clear hg3)
    | (refine u_ (P := Tryz.prog) rfl 49 _ rfl B 6 rfl (nodeC c.t (.slice a c.t.args.length cap)) _ (fun j v hv => ((HX3.out.cells).1 _ _ (b_ wS _ (HRng.out j v hv))).trans (HRng.out j v hv)) Tryz.underlying49 rfl (by kernel_rfl) ?_)
    | (go_at_call 112; refine (HC.out w3 HX3.out).mono ?_; rintro e w5 ⟨a2, c2, rfl, hS5, hx5⟩; have HX5 : Hid (Xt wS w5) := HX3.out.trans hx5; have HS5 := h_ hS5; have hsz35 : B + 1 + 1 < w3.heap.size := (by have h1 := HX3.out.size; have h2 := (g_ HR2.out).1; omega); have hb5 := rowX HX5.out HR0.out; have HTH := h_ (y7R hb5 6 15 (by simp)); obtain ⟨w6, hw6⟩ := e_ (w5.setCells B 6 (#[.int .i64 tt.kind, .int .i64 tt.op, .float .f64 tt.x, .string tt.s, .bool tt.b, .int .i64 tt.f, .int .i64 tt.ref.a.1, .int .i64 tt.ref.a.2, .bool tt.ref.cf, .bool tt.ref.rf, .int .i64 tt.to.a.1, .int .i64 tt.to.a.2, .bool tt.to.cf, .bool tt.to.rf, .slice a2 tt.args.length c2]).toList); have HB6 : Hid (r_ w6 B #[c.kind, c.v.kind, .float .f64 c.v.x, .string c.v.s, c.v.b, c.v.f, tt.kind, tt.op, .float .f64 tt.x, .string tt.s, tt.b, tt.f, tt.ref.a.1, tt.ref.a.2, .bool tt.ref.cf, .bool tt.ref.rf, tt.to.a.1, tt.to.a.2, .bool tt.to.cf, .bool tt.to.rf, .slice a2 tt.args.length c2] 51) := (by unfold Hid; rw [<- hw6]; exact yZ5 hb5); have HG6 : Hid (w5.grownBy w6 (some B)) := (by unfold Hid; rw [<- hw6]; exact jRE B _ 6 w5); have h2r := rowX HX5.out HR2.out; obtain ⟨t0, t1, _, _⟩ := zxi (b := B + 1 + 1) (w := w6) (by rw [HG6.out.block (B + 1 + 1) (g_ h2r).1 (fun e => by have := i_ e; omega)]; exact h2r); clear hx5 hS5 hb5 h2r)
    | (refine wpList_store_mid (P := Tryz.prog) rfl 49 _ _ rfl B 6 #[.int .i64 tt.kind, .int .i64 tt.op, .float .f64 tt.x, .string tt.s, .bool tt.b, .int .i64 tt.f, .int .i64 tt.ref.a.1, .int .i64 tt.ref.a.2, .bool tt.ref.cf, .bool tt.ref.rf, .int .i64 tt.to.a.1, .int .i64 tt.to.a.2, .bool tt.to.cf, .bool tt.to.rf, .slice a2 tt.args.length c2] rfl rfl HTH.out (by kernel_rfl) (n_ (jrw tt (.slice a2 tt.args.length c2) rfl)) ?_; rw [hw6])
    | (refine x_ (P := Tryz.prog) rfl 51 _ rfl B rfl 51 #[.int .i64 c.kind, .int .i64 c.v.kind, .float .f64 c.v.x, .string c.v.s, .bool c.v.b, .int .i64 c.v.f, .int .i64 tt.kind, .int .i64 tt.op, .float .f64 tt.x, .string tt.s, .bool tt.b, .int .i64 tt.f, .int .i64 tt.ref.a.1, .int .i64 tt.ref.a.2, .bool tt.ref.cf, .bool tt.ref.rf, .int .i64 tt.to.a.1, .int .i64 tt.to.a.2, .bool tt.to.cf, .bool tt.to.rf, .slice a2 tt.args.length c2] (0, 0) _ HB6.out Tryz.underlying51 rfl (by kernel_rfl) ?_)
    | (go_at_call 25; have hx6 : Xt w w6 := (HX.out.trans HX5.out).grownB HG6.out (fun q hq => by cases hq; have := HBw.out; omega); have HX6 := h_ hx6; have hA6 : ArgsIn w6 n (.slice a2 tt.args.length c2) tt.args := (HS5.out.keep (fun b hb hlt => HG6.out.block b hlt (fun e => by have := i_ e; have := hb.1; omega))).own.args; have HP := h_ (zbE n gb mb M tg ⟨c.kind, c.v, tt⟩ a2 c2 w6 (HG.out.xt hx6) HOK2.out (HT.out.xt hx6) HSM2.out hA6); refine (HP.out).mono ?_; rintro e w7 ⟨zz, rfl, hG7, hg7⟩; have HG7 := h_ hG7; have Hg7 := h_ hg7; clear hx6 hA6 hG7 hg7))
   go_ret;rw [HGC.out];exact ⟨zz, rfl, HG7.out, z8o (HX6.out.grown (some mb)) Hg7.out⟩
 . have hkb : (c.kind == 2) = false := (by simpa using hk);have HGC : Hid (shC (byG fr tg).1 (byG fr tg).2 c = c) := shC_1 _ _ hk;clear hk;have HP := h_ (zbE n gb mb M tg c a cap wS (HG.out.xt HX.out) HOK.out (HT.out.xt HX.out) HSM.out (HIN.out.xt HX.out));go_wp2_with (first
    | (refine x_ (P := Tryz.prog) rfl 51 _ rfl B rfl 51 _ (0, 0) _ HR0.out Tryz.underlying51 rfl (by kernel_rfl) ?_)
    | (go_at_call 25; refine (HP.out).mono ?_; rintro e w7 ⟨zz, rfl, hG7, hg7⟩; have HG7 := h_ hG7; have Hg7 := h_ hg7; clear hG7 hg7))
   go_ret;rw [HGC.out];exact ⟨zz, rfl, HG7.out, z8o (HX.out.grown (some mb)) Hg7.out⟩
end
section
open Go.RowKit Go.Sort Go.Maps Go.Shelf Go.MapKept
theorem zlh (gb mb : Nat) (M : GM) (w : World) (h : GridIs w gb mb M) : Calls Tryz.prog 31 #[v_ gb] w fun e w' => e = .returned (v_ (w.heap.size + 1)) /\ GridIs w' (w.heap.size + 1) w.heap.size M /\ Xt w w' := by
 have HG := h_ h;have hc := h.cell;obtain ⟨E, ⟨es, clk, h1, h2⟩, hE⟩ := h.map;have HC := h_ (ztU mb es clk w h1);clear h h1;go_enter Tryz.func31, Tryz.ntmps31;go_wp2_with (first | (go_at_call 72; refine (HC.out).mono ?_; rintro e w' ⟨rfl, rfl⟩))
 go_ret;have hx : Xt w ((w.alloc (.map es clk)).alloc (.cells #[.map (some w.heap.size)] 102)) := ((Xt.refl _).alloc _).alloc _;refine ⟨by simp, ⟨?_, ⟨E, ⟨es, clk, ?_, h2⟩, hE⟩, HG.out.sorted, fun x hx' => (HG.out.args x hx').kept hx.cellsIn, HG.out.many⟩, hx⟩
 . have := (a_ (w.alloc (.map es clk)) (.cells #[.map (some w.heap.size)] 102)).1;rw [World.size_alloc] at this;exact (yvw this).1
 . exact rowX ((Xt.refl _).alloc _) (a_ w _).1
theorem zWW (f : ArT) (b : Nat) (a : Ad) (W : World) (h : W.heap[b]? = some (.cells #[f.a, f.b, f.c, f.d] 26 (0, 0))) :
    Calls Tryz.prog 111 (#[adW a] ++ #[.pointer (some ⟨b, 0, none⟩)]) W fun e W' => e = .returned (.bool (inA f a)) /\ Gr W W' := by
 obtain ⟨w0, hw0⟩ := e_ (W.alloc (.cells #[a.1, a.2] 24));have hg0 : Gr W w0 := (by rw [<- hw0]; exact (Gr.refl _).alloc _);obtain ⟨⟨a0, a1, a2, a3⟩, _⟩ := jr0 (rowX hg0.xt h);obtain ⟨b0, b1, _, _⟩ := zxi (b := W.heap.size) (w := w0) (by rw [<- hw0]; exact (a_ W _).1);have HI := h_ (zkF f.a f.b f.c f.d a.1 a.2 w0);have HG := h_ hg0;obtain ⟨v, hv⟩ := e_ (inA f a);rw [show inB f.a f.b f.c f.d a.1 a.2 = v from hv] at HI;rw [hv];clear h hg0 hv
 show Calls Tryz.prog 111 #[adW a, v_ b] W _
 go_enter Tryz.func111, Tryz.ntmps111;go_wp2_with (first | (go_at_call 16; refine (HI.out).mono ?_; rintro e w1 ⟨rfl, hg1⟩; have HG1 := h_ (HG.out.trans hg1); clear hg1))
 go_ret;exact ⟨rfl, HG1.out⟩
structure MQ {α : Type} (W0 : World) (go mo : Nat) (F : List α -> Option PG) (pre : List α) (W : World) : Prop where
 grown : W0.grownBy W (some mo)
 out : ∃ Mo, GridIs W go mo Mo /\ F pre = some (er Mo)
theorem MQ.own {α : Type} {W0 : World} {go mo : Nat} {F : List α -> Option PG} (hm : mo < W0.heap.size) : OwnFrom W0.heap.size (fun pre W => MQ W0 go mo F pre W) := fun s X Y row hs hg hr => by
 obtain ⟨h1, ⟨Mo, h2, h3⟩⟩ := hs;exact ⟨ypE h1 hg (fun r e => (hr r e).1), ⟨Mo, h2.kept (zNc hg (fun r e => (hr r e).2)) (hg.block mo (by have := h1.size; omega) (fun e => by have := (hr mo e.symm).1; omega)), h3⟩⟩
theorem MQ.start {α : Type} {W0 : World} {go mo : Nat} {M : GM} {F : List α -> Option PG} (h : GridIs W0 go mo M) (hF : F [] = some (er M)) : MQ W0 go mo F [] W0 := ⟨⟨rfl, rfl, rfl, Nat.le_refl _, fun _ _ _ => rfl⟩, ⟨M, h, hF⟩⟩
theorem MQ.xt {α : Type} {W0 W W' : World} {go mo : Nat} {F : List α -> Option PG} {pre : List α} (h : MQ W0 go mo F pre W) (hx : Xt W W') : MQ W0 go mo F pre W' :=
 ⟨ypE h.grown hx.grownN (fun r e => by cases e), let ⟨Mo, h2, h3⟩ := h.out; ⟨Mo, h2.xt hx, h3⟩⟩
theorem jSx {M : GM} {wb : Ad -> Bool} {xs : List TE} (h : z2c M wb xs) : xs.map tpT = (er M).filter fun x => wb x.1 := by
 unfold z2c at h;rw [show xs.map tpT = xs.map (fun x => (x.1, x.2.1)) from rfl, h];unfold er;rw [List.filter_map]; rfl
theorem ybt {M : GM} {wb : Ad -> Bool} {i : Nat} {pre : List TE} (h : z2c (M.take i) wb pre) : ∃ l, (er M).filter (fun x => wb x.1) = pre.map tpT ++ l := by
 rw [jSx h];have e : er M = er (M.take i) ++ er (M.drop i) := (by unfold er; rw [<- List.map_append, List.take_append_drop]);exact ⟨_, by rw [e, List.filter_append]⟩
def zSb (P : PG) (l : List (Ad × ContT)) : PG := l.foldl (fun P x => delM x.1 P) P
theorem zk1 (P : PG) (l : List (Ad × ContT)) (x : Ad × ContT) : zSb P (l ++ [x]) = delM x.1 (zSb P l) := by simp [zSb]
theorem jWS (P : PG) : ∀ l : List (Ad × ContT), zSb P l = P.filter fun x => !(l.any fun y => decide (x.1 = y.1)) := by
 intro l;refine yqn (P := fun l => zSb P l = P.filter fun x => !(l.any fun y => decide (x.1 = y.1))) ?_ ?_ l
 . exact (List.filter_eq_self.2 (fun x _ => rfl)).symm
 . intro l x ih;rw [zk1, ih];unfold delM;rw [List.filter_filter];refine List.filter_congr fun y _ => ?_;rw [List.any_append];simp only [List.any_cons, List.any_nil, Bool.or_false, Bool.not_or];rw [Bool.and_comm]
theorem jcZ (f : ArT) (P : PG) : zSb P (P.filter fun x => inA f x.1) = zRj f P := by
 rw [jWS];unfold zRj;refine List.filter_congr fun x hx => ?_;congr 1;cases h : inA f x.1
 . rw [List.any_eq_false];intro y hy;simp only [decide_eq_true_eq];intro e;have := (List.mem_filter.1 hy).2;rw [<- e, h] at this; cases this
 . rw [List.any_eq_true];exact ⟨x, List.mem_filter.2 ⟨hx, h⟩, by simp⟩
end
section
open Go.RowKit Go.Sort Go.Maps Go.Shelf Go.MapKept
attribute [local go_sem] Oper.semAt_some
theorem ypS {A : Nat -> Bool} {W W' : World} {b : Nat} {cs : Array Value} (hA : A (2 * 26) = true) (h : W.heap[b]? = some (.cells cs 26 (0, 0))) (hk : KeepsT A W W') : W'.heap[b]? = some (.cells cs 26 (0, 0)) :=
 hk.same b _ h (by simp [jG1, hA])
theorem y8t : yQy zeroC = true := by kernel_rfl
theorem jhQ : zeroC.ok := by simp [ContT.ok, zeroC, NodeT.ok, okL, ByteArray.size]
structure MS {α : Type} (W0 : World) (go mo : Nat) (M : GM) (F : List α -> Option PG) (pre : List α) (W : World) : Prop where
 grown : W0.grownBy W (some mo)
 out : ∃ Mo, GridIs W go mo Mo /\ F pre = some (er Mo) /\ ∀ x ∈ Mo, x ∈ M
theorem MS.own {α : Type} {W0 : World} {go mo : Nat} {M : GM} {F : List α -> Option PG} (hm : mo < W0.heap.size) : OwnFrom W0.heap.size (fun pre W => MS W0 go mo M F pre W) := fun s X Y row hs hg hr => by
 obtain ⟨h1, ⟨Mo, h2, h3⟩⟩ := hs;exact ⟨ypE h1 hg (fun r e => (hr r e).1), ⟨Mo, h2.kept (zNc hg (fun r e => (hr r e).2)) (hg.block mo (by have := h1.size; omega) (fun e => by have := (hr mo e.symm).1; omega)), h3⟩⟩
theorem MS.start {α : Type} {W0 : World} {go mo : Nat} {M : GM} {F : List α -> Option PG} (h : GridIs W0 go mo M) (hF : F [] = some (er M)) : MS W0 go mo M F [] W0 := ⟨⟨rfl, rfl, rfl, Nat.le_refl _, fun _ _ _ => rfl⟩, ⟨M, h, hF, fun _ h => h⟩⟩
theorem MS.xt {α : Type} {W0 W W' : World} {go mo : Nat} {M : GM} {F : List α -> Option PG} {pre : List α} (h : MS W0 go mo M F pre W) (hx : Xt W W') : MS W0 go mo M F pre W' :=
 ⟨ypE h.grown hx.grownN (fun r e => by cases e), let ⟨Mo, h2, h3⟩ := h.out; ⟨Mo, h2.xt hx, h3⟩⟩
theorem put_sub {M : GM} {a : Ad} {x : Option Addr} (hv : y8L a.1 a.2 = true) : ∀ y ∈ j4E M a zeroC x, y ∈ M := fun y hy => by
 unfold j4E at hy;rw [y8t, hv] at hy;exact (List.mem_filter.1 (show y ∈ delM a M from hy)).1
theorem jx0 {M : GM} {a : Ad} {x : Option Addr} (hv : y8L a.1 a.2 = true) : er (j4E M a zeroC x) = delM a (er M) := by
 rw [yZx];unfold putP;rw [y8t, hv];rfl
theorem zzi (f : ArT) (gb mb : Nat) (M : GM) (w : World) (hG : GridIs w gb mb M) (hT : Tabs w) (hO : GOk (er M)) :
    Calls Tryz.prog 68 #[v_ gb, arT f] w fun e w' => Xt w w' /\ ∃ go mo Mo, e = .returned (v_ go) /\ GridIs w' go mo Mo /\ er Mo = zRj f (er M) /\ w.heap.size <= mo /\ w.heap.size <= go /\ ∀ x ∈ Mo, x ∈ M := by
 have HG := h_ hG;have HT := h_ hT;have HO := h_ hO;have hglt := hG.lt;obtain ⟨B, hB⟩ := e_ w.heap.size;obtain ⟨w0, hw0⟩ := e_ (w.alloc (.cells #[f.a, f.b, f.c, f.d] 26));have hs0 : w0.heap.size = B + 1 := (by rw [<- hw0, <- hB]; simp);have HX0 : Hid (Xt w w0) := (by unfold Hid; rw [<- hw0]; exact (Xt.refl _).alloc _);have HR0 : Hid (r_ w0 B #[f.a, f.b, f.c, f.d] 26) := (by unfold Hid; rw [<- hw0, <- hB]; exact (a_ w _).1);have HCL := h_ (zlh gb mb M w0 (hG.xt HX0.out));rw [hs0] at HCL;clear hG hT hO
 refine (callsIn_wide (n := 25)).1 ?_;refine callsIn_of_wp_marks Tryz.func68 rfl trivial ?_ rfl;simp only [Tryz.ntmps68, List.size_toArray, List.length_cons, List.length_nil, Nat.reduceAdd, Nat.reduceSub, Array.replicate_succ, Array.replicate_zero, List.push_toArray, List.append_toArray, List.nil_append, List.cons_append];refine wpIn_wide.2 ?_;refine wp_mono (Q := yUX (bodyPostM Fence.wide 25 Tryz.prog Tryz.f68 (fun e w' => Xt w w' /\ ∃ go mo Mo, e = .returned (v_ go) /\ GridIs w' go mo Mo /\ er Mo = zRj f (er M) /\ w.heap.size <= mo /\ w.heap.size <= go /\ ∀ x ∈ Mo, x ∈ M))) ?_ yqv;go_wp2_with (first
  | (go_at_call 31; refine (HCL.out).mono ?_; rintro e w1 ⟨rfl, hGc, hx1⟩; obtain ⟨C, hC⟩ := e_ w1.heap.size; obtain ⟨w2, hw2⟩ := e_ (w1.alloc (.cells #[v_ (B + 1 + 1)] 29)); have HGc := h_ hGc; have HX1 := h_ hx1; have hs2 : w2.heap.size = C + 1 := (by rw [<- hw2]; simp [hC]); have HX12 : Hid (Xt w1 w2) := (by unfold Hid; rw [<- hw2]; exact (Xt.refl _).alloc _); have HRC : Hid (r_ w2 C #[v_ (B + 1 + 1)] 29) := (by unfold Hid; rw [<- hw2, <- hC]; exact (a_ w1 _).1); obtain ⟨⟨a0, a1, a2, a3⟩, _⟩ := jr0 (rowX (hx1.trans HX12.out) HR0.out); clear hGc hx1)
  | (go_at_call 69; refine ((callsIn_wide (n := 20)).1 (gin_in 20 (by omega) (some ⟨gb, 0, none⟩) ((f.a, f.b), (f.c, f.d)) _)).mono ?_; rintro e w' ⟨rfl, rfl⟩))
 have hCB : B + 1 + 1 < C := (by have := HGc.out.lt; omega);obtain ⟨W0, hW0⟩ := e_ (((w2.alloc (.cells #[f.a, f.b, f.c, f.d] 26)).alloc (.cells #[v_ gb] 29)).alloc (.cells #[.func (.func 111) #[] #[v_ w2.heap.size]] 99));have hsW : W0.heap.size = C + 4 := (by rw [<- hW0]; simp [hs2]);have HX2W : Hid (Xt w2 W0) := (by unfold Hid; rw [<- hW0]; exact (((Xt.refl w2).alloc _).alloc _).alloc _);have HRA : Hid (r_ W0 (C + 1) #[f.a, f.b, f.c, f.d] 26) := by
  unfold Hid; rw [<- hW0, <- hs2];exact rowX (((Xt.refl _).alloc _).alloc _) (a_ w2 _).1
 have rBg : W0.heap[C + 2]? = some (.cells #[v_ gb] 29 (0, 0)) := by
  rw [<- hW0];have := rowX ((Xt.refl _).alloc (.cells #[.func (.func 111) #[] #[v_ w2.heap.size]] 99)) (a_ (w2.alloc (.cells #[f.a, f.b, f.c, f.d] 26)) (.cells #[v_ gb] 29)).1;simpa [hs2] using this
 have rBw : W0.heap[C + 3]? = some (.cells #[.func (.func 111) #[] #[v_ (C + 1)]] 99 (0, 0)) := by
  rw [<- hW0];have := (a_ ((w2.alloc (.cells #[f.a, f.b, f.c, f.d] 26)).alloc (.cells #[v_ gb] 29)) (.cells #[.func (.func 111) #[] #[v_ w2.heap.size]] 99)).1;simpa [hs2] using this
 have HX0W : Hid (Xt w0 W0) := (HX1.out.trans HX12.out).trans HX2W.out;have HXW : Hid (Xt w W0) := HX0.out.trans HX0W.out;have HGcW : Hid (GridIs W0 (B + 1 + 1) (B + 1) M) := HGc.out.xt (HX12.out.trans HX2W.out);have HRCW := h_ (rowX HX2W.out HRC.out);have HcgW : W0.cell? ⟨C + 2, 0, none⟩ = some (.pointer (some ⟨gb, 0, none⟩)) := (by simp [World.cell?, rBg]);simp only [hs2] at hW0;try simp only [hs2]
 simp only [hW0];clear hW0 hs2 hw2 hw0 rBg HCL a0 a1 a2 a3;have hO2 : Hid (∀ x ∈ er M, y8L x.1.1 x.1.2 = true) := h_ fun x hx => (HO.out.each x hx).1;generalize hA0 : Act.mk _ _ = a0;refine (wpIn_wide (n := 25)).1 ?_;refine jF4 (n := 25) (by omega) (gf := 116) (lb := #[v_ (C + 2), v_ (C + 3)]) (by subst hA0; rfl) (enters_of Tryz.func116 (by kernel_rfl) rfl)
  (z8H (fun x => x == 2 * (B + 1) + 1 || x == 2 * 26) 111 #[v_ (C + 1)] (enters_of Tryz.func111 (by kernel_rfl) rfl) (fun a => inA f a) w.heap.size w rfl (fun W => W.heap[C + 1]? = some (.cells #[f.a, f.b, f.c, f.d] 26 (0, 0))) (fun _ _ h _ hk => ypS (by simp) h hk) (fun a W h => zWW f (C + 1) a W h) (25 - 1) (by omega) (C + 2) (C + 3) gb mb M HG.out W0 HXW.out HRA.out (by omega) HcgW rBw (fun k hk => by simp; omega))
  (fun h k => ⟨h.1.trans k.1, h.2.trans k.2⟩) (fun W l o o' hl ho hc hw => ⟨belowK_b (w := W0) (by omega) W l o o' hl ho hc hw, KeepsT.of_grown (grownBy_putObj' W l o') (fun j o2 e h2 => by cases e; rw [ho] at h2; cases h2; cases o <;> simp_all [jG1, Obj.isCells, Obj.isWalk])⟩) (Below.refl _ _) (fun _ => rfl)
  (fun pre W => MS W0 (B + 1 + 1) (B + 1) M (fun pre => some (zSb (er M) (pre.map tpT))) pre W)
  (fun c pre W => False)
  (MS.own (by omega))
  (fun c s X Y row hs hg hr => hs)
  (MS.start HGcW.out rfl)
  (fun x a' W => ∃ Bx, r_ W Bx #[x.1.1, x.1.2] 24 /\ (x.1, x.2.1) ∈ er M /\
   a' = { tmps := ((a0.tmps.setIfInBounds 12 (adW x.1)).setIfInBounds 13 (ysf x.2.1 x.2.2)).setIfInBounds 6 (v_ Bx), defers := [] })
  (fun x a' _ X Y row hs hg hr => by
   obtain ⟨Bx, h1, h5⟩ := hs;exact ⟨Bx, jI8 h1 hg (fun r e => (hr r e).2), h5⟩)
  ?assign ?body ?done ?stop
 case stop =>
  rintro D c pre W hD hS hf hK;exact hf.elim
 case done =>
  rintro D xs W hD hS hI hK;subst hA0;obtain ⟨hgr, ⟨Mo, hGo, hEo, hsub⟩⟩ := hI;have HGo := h_ hGo;have HEo : Hid (er Mo = zRj f (er M)) := by
   unfold Hid;rw [jSx hS, jcZ] at hEo;exact (i_ hEo).symm
  have rC := (hgr.block C (by omega) (fun e => by have := i_ e; omega)).trans HRCW.out;obtain ⟨cC, _⟩ := yvw rC;have HxW : Hid (Xt w W) := HXW.out.grownB hgr (fun q hq => by cases hq; omega);have HK := h_ hK;clear hGo hEo hS hgr rC hK;go_wp2_with fail;refine ⟨by simp, .inl ⟨_, _, rfl, run_takeDeferred HK.out, ?_⟩⟩;have hxE : Xt w (W.putObj D (.deferred none)) := HxW.out.grownB (grownBy_putObj' W D _) (fun q hq => by cases hq; have := HXW.out.size; omega);have hGW : GridIs (W.putObj D (.deferred none)) (B + 1 + 1) (B + 1) Mo :=
   HGo.out.far (P := fun b => b = D) (fun b hb => World.putObj_heap_other hb) (fun b hb o u hu => by subst hb; rw [World.cell?, HK.out] at hu; cases hu) (by omega) (by omega)
  refine ⟨_, results_tmp rfl _ _ _, hxE, B + 1 + 1, B + 1, Mo, rfl, hGW, HEo.out, by omega, by omega, hsub⟩
 case assign =>
  rintro l0 pre x W K hI ⟨V, hIV, ⟨hxV, hsm, nT, hA⟩, hmem⟩ hK;subst hA0;obtain ⟨⟨c, d⟩, tc, tp⟩ := x;have HI := h_ hI;have HME : Hid (((c, d), tc) ∈ er M) := hmem;obtain ⟨wA, hwA, hbA, hsA, kA0, kA1⟩ := box1 W c d 24;have hrA : wA.heap[W.heap.size]? = some (.cells #[.int .i64 c, .int .i64 d] 24 (0, 0)) := (by rw [<- hwA]; exact World.alloc_heap_new W _);have HXA : Hid (Xt W wA) := hbA;have HRA2 := h_ hrA;obtain ⟨cv, hcv⟩ := e_ (ysf tc tp);simp only [teV, hcv];clear hrA hbA kA0 kA1 hI hIV hxV hA hmem hsm
  gi_wp2_with fail
  have hx := HXA.out;refine hK _ _ (jWD hx _) ⟨hx.mono (by have := HI.out.grown.size; have := HXW.out.size; omega), KeepsT.of_xt hx⟩ (HI.out.xt hx) ⟨W.heap.size, HRA2.out, HME.out, ?_⟩;simp only [hcv, List.setIfInBounds_toArray, List.set_cons_zero, List.set_cons_succ]
 case body =>
  rintro l0 pre x a' W hl0 ⟨r, hr⟩ hI ⟨Bx, hBx, hmem, rfl⟩ hlt;subst hA0;obtain ⟨⟨c, d⟩, tc, tp⟩ := x;simp only at hBx;obtain ⟨hgr, ⟨Mo, hGo, hEo, hsub⟩⟩ := hI;have HGo := h_ hGo;have HEo := h_ hEo;have HGr := h_ hgr;have hgs := hgr.size;have rC := (hgr.block C (by omega) (fun e => by have := i_ e; omega)).trans HRCW.out;obtain ⟨cC, _⟩ := yvw rC;obtain ⟨x0, x1, _, _⟩ := zxi hBx;have HXWW : Hid (Xt w W) := HXW.out.grownB hgr (fun q hq => by have := i_ hq; omega);have HVX : Hid (y8L c d = true) := hO2.out _ hmem
  have HP := h_ (zbE 0 (B + 1 + 1) (B + 1) Mo (c, d) zeroC none 0 W hGo jhQ (HT.out.xt HXWW.out) (by simp [zeroC, yQE, joP]) ⟨rfl, none, 0, rfl, by simp⟩);obtain ⟨cv, hcv⟩ := e_ (ysf tc tp);have hfp : Fence.wide.fn 25 := trivial;simp only [hcv];clear hGo hEo hgr rC hBx hmem hr hlt;simp only [List.setIfInBounds_toArray, List.set_cons_zero, List.set_cons_succ]
  gi_wp2_with (first
   | (gi_at_call 25; refine (jbR HP.out).mono ?_; rintro e w8 ⟨zz, rfl, hG8, hg8⟩; have HG8 := h_ hG8; have Hg8 := h_ hg8; clear hG8 hg8))
  have hgW := Hg8.out;refine ⟨⟨hgW.size, fun k o hB hk _ => (hgW.block k (g_ hk).1 (fun e => by have := i_ e; omega)).trans hk⟩, ⟨⟨hgW.os, hgW.tape, hgW.output, hgW.size, fun k hk => hgW.block k (by omega) (fun e => by have := i_ e; omega)⟩, KeepsT.of_grown hgW (fun j o e ho => ?_)⟩, ⟨z8o HGr.out hgW, ⟨_, HG8.out, ?_, fun y hy => hsub _ (put_sub HVX.out y hy)⟩⟩⟩
  . obtain ⟨E, hm, _⟩ := HGo.out.map;obtain ⟨es, clk, h1, _⟩ := hm;have e1 := i_ e;rw [<- e1, h1] at ho;cases ho;simp [jG1, <- e1]
  . rw [jx0 HVX.out, List.map_append, List.map_cons, List.map_nil, zk1, i_ HEo.out]; rfl
end
section
open Go.RowKit Go.Sort
abbrev Ans := Option PG × Int
def jWQ (cols : Bool) (a n : Int) (g : PG) : Ans :=
 if (jls (yaC cols) a n).2 = false then (none, 1) else if zcM (z7H cols ⟨a, n, yaC cols⟩) n g = true then (none, 20) else (some (yan (z7H cols ⟨a, n, yaC cols⟩) (zi9 cols ⟨a, n, yaC cols⟩) g), 0)
def yuv (o : Option PG) : Ans := (o, if o.isSome = true then 0 else 41)
def z4o (f : ArT) (g : Ad) : Int := wrap64 (g.1 - f.a)
def jLL (f : ArT) (g : Ad) : Int := wrap64 (g.2 - f.b)
def yts (f : ArT) (t : Ad) (g : PG) : Ans :=
 if ygU f.a f.b f.c f.d = false then (none, 1) else if (y8L t.1 t.2 && y8L (zyU f t).1 (zyU f t).2) = false then (none, 20) else yuv (jZJ (movG (z4o f t) (jLL f t)) (z4o f t) (jLL f t) (zRj (zJt f t) g) (inP f g))
def jJL (t : Ad) (f : ArT) (g : PG) : Ans :=
 if ygU f.a f.b f.c f.d = false then (none, 1) else if y8L t.1 t.2 = false then (none, 20) else yuv (yat t f g)
def jst (f : ArT) (t : Ad) (g : PG) : Ans :=
 if ygU f.a f.b f.c f.d = false then (none, 1) else if (y8L t.1 t.2 && y8L (zyU f t).1 (zyU f t).2) = false then (none, 20) else (some (yan (mvC f (zJt f t) (z4o f t) (jLL f t)) (mvA f (zJt f t) (z4o f t) (jLL f t)) g), 0)
def zpf (f : ArT) (g : PG) : Ans := if ygU f.a f.b f.c f.d = false then (none, 1) else (some (zRj f g), 0)
theorem yzu {cG : Ad -> Ad × Bool} {n : Int} {l : PG} {x : Ad × ContT} (hx : x ∈ l) (h : (cG x.1).2 = false) (hn : 0 < n) : zcM cG n l = true := by
 unfold zcM;rw [List.any_eq_true];exact ⟨x, hx, by simp [h, hn]⟩
theorem zIi {cG : Ad -> Ad × Bool} {aG : ArT -> ArT × Bool} {c : ContT} (h : jNS c = c) : yFo cG aG (jNS c) = if c.kind = 2 then ⟨c.kind, c.v, jNY cG aG c.t⟩ else c := by
 have ht : copyT c.t = c.t := by
  have := congrArg ContT.t h;exact this
 rw [h];unfold yFo;rw [ht]
theorem j5Q {cc rr : Int} {c : ContT} (h : jNS c = c) : shC cc rr (jNS c) = if c.kind = 2 then ⟨c.kind, c.v, upT (shH cc rr) c.t⟩ else c := by
 have ht : copyT c.t = c.t := by
  have := congrArg ContT.t h;exact this
 rw [h];unfold shC zpK;rw [ht]
theorem zHI {cG : Ad -> Ad × Bool} {aG : ArT -> ArT × Bool} : ∀ {l : PG}, (∀ x ∈ l, x.2.ok) -> GOk (yan cG aG l) := by
 intro l;refine yqn (P := fun l => (∀ x ∈ l, x.2.ok) -> GOk (yan cG aG l)) ?_ ?_ l
 . intro _; exact GOk.nil
 . intro l x ih h;rw [jon];have hl := ih (fun y hy => h y (List.mem_append_left _ hy));unfold y44;split
   . exact hl.put _ (yFU (jvQ (h x (by simp))))
   . exact hl
theorem zFu {o : Option PG} {y : Ad} {c : ContT} {A : PG} (ho : ∀ P, o = some P -> GOk P) (hc : c.ok) (h : y1P o y c = some A) : GOk A := by
 obtain ⟨P, hP, _, rfl⟩ := jhW h;exact (ho P hP).put y hc
theorem z1P {m : Ad -> Ad} {cc rr : Int} {P : PG} (hP : GOk P) : ∀ {l : PG} {A : PG}, (∀ x ∈ l, x.2.ok) -> jZJ m cc rr P l = some A -> GOk A := by
 intro l;refine yqn (P := fun l => ∀ {A : PG}, (∀ x ∈ l, x.2.ok) -> jZJ m cc rr P l = some A -> GOk A) ?_ ?_ l
 . intro A _ h; cases h; exact hP
 . intro l x ih A hx h;rw [zhS] at h;exact zFu (fun Q hQ => ih (fun y hy => hx y (List.mem_append_left _ hy)) hQ) (j00 cc rr (jvQ (hx x (by simp)))) h
theorem ySx {fr : Ad} {c : ContT} {P : PG} (hP : GOk P) (hc : c.ok) : ∀ {l : List Ad} {A : PG}, yTr fr c P l = some A -> GOk A := by
 intro l;refine yqn (P := fun l => ∀ {A : PG}, yTr fr c P l = some A -> GOk A) ?_ ?_ l
 . intro A h; cases h; exact hP
 . intro l x ih A h;rw [zVX] at h;exact zFu (fun Q hQ => ih hQ) (j00 _ _ (jvQ hc)) h
section
variable {g A : PG} {z : Int}
theorem GOk.oks (h : GOk g) : ∀ x ∈ g, x.2.ok := fun x hx => (h.each x hx).2.2.2.2
theorem jgU {cols : Bool} {a n : Int} (h : GOk g) (hA : jWQ cols a n g = (some A, z)) : GOk A /\ z = 0 := by
 unfold jWQ at hA;split at hA
 . cases hA
 . split at hA
   . cases hA
   . cases hA; exact ⟨zHI h.oks, rfl⟩
theorem jAv {o : Option PG} (ho : ∀ P, o = some P -> GOk P) (hA : yuv o = (some A, z)) : GOk A /\ z = 0 := by
 unfold yuv at hA;cases o with
 | none => cases hA
 | some Q => cases hA; exact ⟨ho _ rfl, rfl⟩
theorem z4W {f : ArT} {t : Ad} (h : GOk g) (hA : yts f t g = (some A, z)) : GOk A /\ z = 0 := by
 unfold yts at hA;split at hA
 . cases hA
 . split at hA
   . cases hA
   . exact jAv (fun P hP => z1P (h.clear _) (fun x hx => h.oks x (List.mem_filter.1 hx).1) hP) hA
theorem yyc {f : ArT} {t : Ad} (h : GOk g) (hA : jst f t g = (some A, z)) : GOk A /\ z = 0 := by
 unfold jst at hA;split at hA
 . cases hA
 . split at hA
   . cases hA
   . cases hA; exact ⟨zHI h.oks, rfl⟩
theorem yZc {f : ArT} (h : GOk g) (hA : zpf f g = (some A, z)) : GOk A /\ z = 0 := by
 unfold zpf at hA;split at hA
 . cases hA
 . cases hA; exact ⟨h.clear f, rfl⟩
theorem yBQ : zeroC.ok := by simp [ContT.ok, zeroC, NodeT.ok, okL, ByteArray.size]
theorem y0V {f : ArT} {t : Ad} (h : GOk g) (hA : jJL t f g = (some A, z)) : GOk A /\ z = 0 := by
 unfold jJL at hA;split at hA
 . cases hA
 . split at hA
   . cases hA
   . refine jAv (fun P hP => ?_) hA;unfold yat at hP;split at hP
     . cases hP; exact h.clear f
     . refine ySx (h.clear f) ?_ hP;cases hl : lkM t g with
       | none => exact yBQ
       | some c => exact h.oks _ (zL0 hl)
end
def zkY (f : ArT) (x y : Int) : List Ad := if f.d < y then [] else if f.c < x then (if y < f.d then zTp f (zVW f (f.a, y + 1)) f.a (y + 1) else []) else zTp f (zVW f (x, y)) x y
section
variable {f : ArT}
theorem zXF (hv : ygU f.a f.b f.c f.d = true) : zkY f f.a f.b = y1i f := by
 have h := zJx (x := f) (by unfold vA; unfold ygU at hv; exact hv);unfold zkY y1i;rw [if_neg (by omega), if_neg (by omega)]
theorem zuk (hv : ygU f.a f.b f.c f.d = true) {x y : Int} (hx : f.a <= x /\ x <= f.c) (hy : f.b <= y /\ y <= f.d) : zkY f x y = (x, y) :: zkY f (x + 1) y := by
 have hin : inA f (x, y) = true := jpX hv ⟨hx.1, hx.2, hy.1, hy.2⟩;unfold zkY;rw [if_neg (by omega), if_neg (by omega), if_neg (by omega)];by_cases h1 : x < f.c
 . rw [if_neg (by omega), yAc hin h1]
 . obtain rfl : x = f.c := by omega
   rw [if_pos (by omega)];by_cases h2 : y < f.d
   . rw [if_pos h2, zsd hin h2]
   . obtain rfl : y = f.d := by omega
     rw [if_neg h2, zgs]
theorem jzw {y : Int} (hy : y <= f.d) (hv : ygU f.a f.b f.c f.d = true) : zkY f (f.c + 1) y = zkY f f.a (y + 1) := by
 have h := zJx (x := f) (by unfold vA; unfold ygU at hv; exact hv);unfold zkY;rw [if_neg (by omega), if_pos (by omega)];by_cases h2 : y < f.d
 . rw [if_pos h2, if_neg (by omega), if_neg (by omega)]
 . rw [if_neg h2, if_pos (by omega)]
theorem yfB {x : Int} : zkY f x (f.d + 1) = [] := by
 unfold zkY;rw [if_pos (by omega)]
end
end
end Go.Proofs.YtdoeejhdenifpaaGreatDoor
