/- quadrillelaw22.MoveFormula's walk (made by mkn6.py). -/
import Derived.Test.YtlgkaipgdhcajaaGreatDoorN5
import Derived.Test.YtlgkaipgdhcajaaGreatDoorM11
import Derived.Test.YtlgkaipgdhcajaaGreatDoorW44
import Derived.Test.YtlgkaipgdhcajaaGreatDoorA8
namespace Go.Proofs.YtlgkaipgdhcajaaGreatDoor
open Go.RowKit Go.Sort

theorem ArgsIn.upN {w : World} {n : Nat} {av : Value} {l : List NodeT} (h : ArgsIn w n av l) : ∀ k, ArgsIn w (n + k) av l
  | 0 => h
  | k + 1 => (ArgsIn.upN h k).up
theorem ArgsIn.upK {w : World} {n m : Nat} {av : Value} {l : List NodeT} (hm : n ≤ m) (h : ArgsIn w n av l) : ArgsIn w m av l := by
  have := h.upN (m - n)
  rwa [show n + (m - n) = m by omega] at this
set_option maxRecDepth 100000 in
set_option maxHeartbeats 1000000 in
theorem same_was {n : Nat} {t : NodeT} {a a1 : Option Addr} {cap : Nat} {V : World} (h1 : ArgsIn V n (.slice a t.args.length cap) t.args) (h2 : ArgsIn V n (.slice a1 t.args.length t.args.length) (copyL t.args)) :
    Calls Tryz.prog 10 #[nodeV t a t.args.length cap, .agg #[.int .i64 t.kind, .int .i64 t.op, .float .f64 (oneX t.x), .string t.s, .bool t.b, .int .i64 t.f, .int .i64 t.ref.a.1, .int .i64 t.ref.a.2, .bool t.ref.cf, .bool t.ref.rf, .int .i64 t.to.a.1, .int .i64 t.to.a.2, .bool t.to.cf, .bool t.to.rf, .slice a1 t.args.length t.args.length]] V fun e w' => e = .returned (.bool true) ∧ Gr V w' := by
  have h := fsame_any n t (copyT t) a a1 cap t.args.length V h1 (by rw [copyT_len, copyT_args]; exact h2)
  rw [(sameTB_iff t (copyT t)).2 (copyT_idem t).symm, copyT_len] at h
  clear h1 h2
  obtain ⟨k, o, x, s, bb, f, r, q, l⟩ := t
  exact h
theorem nodeRow_load {w : World} {b : Nat} {t : NodeT} {a : Option Addr} {n c : Nat} (h : w.heap[b]? = some (.cells (nodeC t (.slice a n c)).toArray 29 (0, 0))) : NodeAt w b 0 t a n c :=
  NodeAt.of fun i u hu => by rw [Nat.zero_add]; simpa [World.cell?, h] using hu
set_option maxRecDepth 100000 in
set_option maxHeartbeats 1600000 in
theorem moveFormula_any (n : Nat) (t : NodeT) (a : Option Addr) (cap : Nat) (cols : Bool) (at_ cnt : Int) (w : World) (hok : t.ok) (hT : Tabs w) (hsm : smallT t) (hin : ArgsIn w n (.slice a t.args.length cap) t.args) :
    Calls Tryz.prog 3 #[nodeV t a t.args.length cap, .bool cols, .int .i64 at_, .int .i64 cnt] w fun e w' => e = .returned (.bool true) ∧ Xt w w' := by
  obtain ⟨B, hB⟩ : ∃ B, w.heap.size = B := ⟨_, rfl⟩
  have HBw := Lib.hid hB
  obtain ⟨w0, hw0⟩ : ∃ w0, w.alloc (.cells #[.int .i64 t.kind, .int .i64 t.op, .float .f64 t.x, .string t.s, .bool t.b, .int .i64 t.f, .int .i64 t.ref.a.1, .int .i64 t.ref.a.2, .bool t.ref.cf, .bool t.ref.rf, .int .i64 t.to.a.1, .int .i64 t.to.a.2, .bool t.to.cf, .bool t.to.rf, .slice a t.args.length cap] 29) = w0 := ⟨_, rfl⟩
  have hx0 : Xt w w0 := by rw [← hw0]; exact (Xt.refl _).alloc _
  have r0 : w0.heap[B]? = some (.cells #[.int .i64 t.kind, .int .i64 t.op, .float .f64 t.x, .string t.s, .bool t.b, .int .i64 t.f, .int .i64 t.ref.a.1, .int .i64 t.ref.a.2, .bool t.ref.cf, .bool t.ref.rf, .int .i64 t.to.a.1, .int .i64 t.to.a.2, .bool t.to.cf, .bool t.to.rf, .slice a t.args.length cap] 29 (0, 0)) := by rw [← hw0, ← hB]; exact (MapKept.heap_alloc w _).1
  have HX0 := Lib.hid hx0
  have HR0 := Lib.hid r0
  have HOK := Lib.hid hok
  have HT := Lib.hid hT
  have HSM := Lib.hid hsm
  have HIN := Lib.hid hin
  have hs0 : B < w0.heap.size := (Array.getElem?_eq_some_iff.1 r0).1
  obtain ⟨hS2, hS1⟩ := form_same cols at_ cnt t
  obtain ⟨fr, hfr⟩ : ∃ fr, formP cols at_ cnt t = fr := ⟨_, rfl⟩
  obtain ⟨fd, hfd⟩ : ∃ fd, formD cols at_ cnt t = fd := ⟨_, rfl⟩
  rw [hfr, hfd] at hS1 hS2
  obtain ⟨r, c⟩ := fr
  obtain ⟨r', c'⟩ := fd
  simp only at hS1 hS2
  subst hS2
  have HFR := Lib.hid hfr
  have HFD := Lib.hid hfd
  have hs1 : sameTB r r' = true := (sameTB_iff _ _).2 hS1
  have hs2 : sameTB t (copyT t) = true := (sameTB_iff _ _).2 (copyT_idem t).symm
  have hne : (c != c) = false := by simp
  have hbc : (c == c) = true := by simp
  have HS1 := Lib.hid hs1
  have HS2 := Lib.hid hs2
  clear hok hT hsm hin hx0 r0 hS1 hfr hfd hs1 hs2
  go_enter Tryz.func3, Tryz.ntmps3
  have hm1 : True := trivial
  have hm2 : True := trivial
  have hm3 : True := trivial
  go_wp2_with (first
    | (refine wpList_load_row (P := Tryz.prog) rfl 29 _ rfl B rfl 29 #[.int .i64 t.kind, .int .i64 t.op, .float .f64 t.x, .string t.s, .bool t.b, .int .i64 t.f, .int .i64 t.ref.a.1, .int .i64 t.ref.a.2, .bool t.ref.cf, .bool t.ref.rf, .int .i64 t.to.a.1, .int .i64 t.to.a.2, .bool t.to.cf, .bool t.to.rf, .slice a t.args.length cap] (0, 0) _ (by first | exact HRC.out | exact HRB.out | exact HR0.out) Tryz.underlying29 rfl (by kernel_rfl) ?_)
    | (go_at_call 7; refine (fcopyS_any n t a cap w0 HSM.out (HIN.out.xt HX0.out)).mono ?_; rintro e w1 ⟨a1, rfl, hS1, hx1⟩; obtain ⟨wA, hwA⟩ : ∃ wA, w1.alloc (.cells #[.int .i64 t.kind, .int .i64 t.op, .float .f64 (oneX t.x), .string t.s, .bool t.b, .int .i64 t.f, .int .i64 t.ref.a.1, .int .i64 t.ref.a.2, .bool t.ref.cf, .bool t.ref.rf, .int .i64 t.to.a.1, .int .i64 t.to.a.2, .bool t.to.cf, .bool t.to.rf, .slice a1 t.args.length t.args.length] 29) = wA := ⟨_, rfl⟩; have HXA : Hid (Xt w0 wA) := (by unfold Hid; rw [← hwA]; exact hx1.alloc _); have HRB := Lib.hid (rowX HXA.out HR0.out); have HRW : Hid (wA.heap[w1.heap.size]? = some (.cells #[.int .i64 t.kind, .int .i64 t.op, .float .f64 (oneX t.x), .string t.s, .bool t.b, .int .i64 t.f, .int .i64 t.ref.a.1, .int .i64 t.ref.a.2, .bool t.ref.cf, .bool t.ref.rf, .int .i64 t.to.a.1, .int .i64 t.to.a.2, .bool t.to.cf, .bool t.to.rf, .slice a1 t.args.length t.args.length] 29 (0, 0))) := (by unfold Hid; rw [← hwA]; exact (MapKept.heap_alloc w1 _).1); have HAW : Hid (ArgsIn wA n (.slice a1 t.args.length t.args.length) (copyL t.args)) := (by unfold Hid; rw [← hwA]; exact hS1.own.args.xt ((Xt.refl _).alloc _)); clear hS1 hx1)
    | (go_at_call 8; have hm0 := hm1; clear hm1 hm0; refine (formula_any n t a cap cols at_ cnt wA HOK.out (HT.out.xt (HX0.out.trans HXA.out)) HSM.out (HIN.out.xt (HX0.out.trans HXA.out))).mono ?_; rw [HFR.out]; rintro e w2 ⟨a2, c2, n2, rfl, hS2, hx2⟩; obtain ⟨wb, hwb⟩ : ∃ wb, w2.alloc (.cells #[.int .i64 r.kind, .int .i64 r.op, .float .f64 r.x, .string r.s, .bool r.b, .int .i64 r.f, .int .i64 r.ref.a.1, .int .i64 r.ref.a.2, .bool r.ref.cf, .bool r.ref.rf, .int .i64 r.to.a.1, .int .i64 r.to.a.2, .bool r.to.cf, .bool r.to.rf, .slice a2 r.args.length c2] 29) = wb := ⟨_, rfl⟩; have HXB : Hid (Xt wA wb) := (by unfold Hid; rw [← hwb]; exact hx2.alloc _); have HRC := Lib.hid (rowX HXB.out HRB.out); have HRA : Hid (wb.heap[w2.heap.size]? = some (.cells #[.int .i64 r.kind, .int .i64 r.op, .float .f64 r.x, .string r.s, .bool r.b, .int .i64 r.f, .int .i64 r.ref.a.1, .int .i64 r.ref.a.2, .bool r.ref.cf, .bool r.ref.rf, .int .i64 r.to.a.1, .int .i64 r.to.a.2, .bool r.to.cf, .bool r.to.rf, .slice a2 r.args.length c2] 29 (0, 0))) := (by unfold Hid; rw [← hwb]; exact (MapKept.heap_alloc w2 _).1); have HSA : Hid (SepIn (fun b => wA.heap.size ≤ b ∧ b < w2.heap.size) wb n2 (.slice a2 r.args.length c2) r.args) := (by unfold Hid; rw [← hwb]; exact hS2.keep (fun b _ hb => ((Xt.refl w2).alloc _).block b hb)); clear hS2 hx2)
    | (go_at_call 9; refine (formula22_any n t a cap cols at_ cnt wb HOK.out HSM.out (HIN.out.xt (HX0.out.trans (HXA.out.trans HXB.out)))).mono ?_; rw [HFD.out]; rintro e w3 ⟨a3, c3, n3, rfl, hS3, hx3⟩; obtain ⟨wc, hwc⟩ : ∃ wc, w3.alloc (.cells #[.int .i64 r'.kind, .int .i64 r'.op, .float .f64 r'.x, .string r'.s, .bool r'.b, .int .i64 r'.f, .int .i64 r'.ref.a.1, .int .i64 r'.ref.a.2, .bool r'.ref.cf, .bool r'.ref.rf, .int .i64 r'.to.a.1, .int .i64 r'.to.a.2, .bool r'.to.cf, .bool r'.to.rf, .slice a3 r'.args.length c3] 29) = wc := ⟨_, rfl⟩; have HXC : Hid (Xt wb wc) := (by unfold Hid; rw [← hwc]; exact hx3.alloc _); have HRD : Hid (wc.heap[w3.heap.size]? = some (.cells #[.int .i64 r'.kind, .int .i64 r'.op, .float .f64 r'.x, .string r'.s, .bool r'.b, .int .i64 r'.f, .int .i64 r'.ref.a.1, .int .i64 r'.ref.a.2, .bool r'.ref.cf, .bool r'.ref.rf, .int .i64 r'.to.a.1, .int .i64 r'.to.a.2, .bool r'.to.cf, .bool r'.to.rf, .slice a3 r'.args.length c3] 29 (0, 0))) := (by unfold Hid; rw [← hwc]; exact (MapKept.heap_alloc w3 _).1); have HOB : Hid (OwnIn (fun b => wb.heap.size ≤ b) wc n3 (.slice a3 r'.args.length c3) r'.args) := (by unfold Hid; rw [← hwc]; exact hS3.keep (fun b hb _ => hb) (fun b _ hb => ((Xt.refl w3).alloc _).block b hb)); have HS3 : Hid (wb.heap.size ≤ w3.heap.size) := Lib.hid hx3.size; clear hS3 hx3; have HRows : Hid (∀ V, Xt wc V → V.heap[B]? = some (.cells #[.int .i64 t.kind, .int .i64 t.op, .float .f64 t.x, .string t.s, .bool t.b, .int .i64 t.f, .int .i64 t.ref.a.1, .int .i64 t.ref.a.2, .bool t.ref.cf, .bool t.ref.rf, .int .i64 t.to.a.1, .int .i64 t.to.a.2, .bool t.to.cf, .bool t.to.rf, .slice a t.args.length cap] 29 (0, 0)) ∧ V.heap[w1.heap.size]? = some (.cells #[.int .i64 t.kind, .int .i64 t.op, .float .f64 (oneX t.x), .string t.s, .bool t.b, .int .i64 t.f, .int .i64 t.ref.a.1, .int .i64 t.ref.a.2, .bool t.ref.cf, .bool t.ref.rf, .int .i64 t.to.a.1, .int .i64 t.to.a.2, .bool t.to.cf, .bool t.to.rf, .slice a1 t.args.length t.args.length] 29 (0, 0)) ∧ V.heap[w2.heap.size]? = some (.cells #[.int .i64 r.kind, .int .i64 r.op, .float .f64 r.x, .string r.s, .bool r.b, .int .i64 r.f, .int .i64 r.ref.a.1, .int .i64 r.ref.a.2, .bool r.ref.cf, .bool r.ref.rf, .int .i64 r.to.a.1, .int .i64 r.to.a.2, .bool r.to.cf, .bool r.to.rf, .slice a2 r.args.length c2] 29 (0, 0)) ∧ V.heap[w3.heap.size]? = some (.cells #[.int .i64 r'.kind, .int .i64 r'.op, .float .f64 r'.x, .string r'.s, .bool r'.b, .int .i64 r'.f, .int .i64 r'.ref.a.1, .int .i64 r'.ref.a.2, .bool r'.ref.cf, .bool r'.ref.rf, .int .i64 r'.to.a.1, .int .i64 r'.to.a.2, .bool r'.to.cf, .bool r'.to.rf, .slice a3 r'.args.length c3] 29 (0, 0))) := Lib.hid (fun V hV => ⟨rowX hV (rowX HXC.out HRC.out), rowX hV (rowX (HXB.out.trans HXC.out) HRW.out), rowX hV (rowX HXC.out HRA.out), rowX hV HRD.out⟩); have HQ1 : Hid (∀ V, Xt wc V → Calls Tryz.prog 10 #[nodeV r a2 r.args.length c2, nodeV r' a3 r'.args.length c3] V fun e w' => e = .returned (.bool true) ∧ Gr V w') := Lib.hid (fun V hV => by have h := fsame_any (n + n2 + n3) r r' a2 a3 c2 c3 V (ArgsIn.upK (by omega) ((HSA.out.own.args.xt HXC.out).xt hV)) (ArgsIn.upK (by omega) (HOB.out.args.xt hV)); rw [HS1.out] at h; exact h); have HQ2 : Hid (∀ V, Xt wA V → Calls Tryz.prog 10 #[nodeV t a t.args.length cap, .agg #[.int .i64 t.kind, .int .i64 t.op, .float .f64 (oneX t.x), .string t.s, .bool t.b, .int .i64 t.f, .int .i64 t.ref.a.1, .int .i64 t.ref.a.2, .bool t.ref.cf, .bool t.ref.rf, .int .i64 t.to.a.1, .int .i64 t.to.a.2, .bool t.to.cf, .bool t.to.rf, .slice a1 t.args.length t.args.length]] V fun e w' => e = .returned (.bool true) ∧ Gr V w') := Lib.hid (fun V hV => same_was ((HIN.out.xt (HX0.out.trans HXA.out)).xt hV) (HAW.out.xt hV)))
    | (refine BigFrame.wpList_want (by rfl) (fun K hK => wp_load_row 29 _ rfl w2.heap.size rfl 29 _ (0, 0) _ (HRows.out _ (by first | exact Xt.refl _ | assumption)).2.2.1 Tryz.underlying29 rfl (by kernel_rfl) (hK _ _ ?_)); clear hK K)
    | (refine BigFrame.wpList_want (by rfl) (fun K hK => wp_load_row 29 _ rfl w3.heap.size rfl 29 _ (0, 0) _ (HRows.out _ (by first | exact Xt.refl _ | assumption)).2.2.2 Tryz.underlying29 rfl (by kernel_rfl) (hK _ _ ?_)); clear hK K)
    | (refine BigFrame.wpList_want (by rfl) (fun K hK => wp_load_row 29 _ rfl w1.heap.size rfl 29 _ (0, 0) _ (HRows.out _ (by first | exact Xt.refl _ | assumption)).2.1 Tryz.underlying29 rfl (by kernel_rfl) (hK _ _ ?_)); clear hK K)
    | (refine BigFrame.wpList_want (by rfl) (fun K hK => wp_load_row 29 _ rfl B rfl 29 _ (0, 0) _ (HRows.out _ (by first | exact Xt.refl _ | assumption)).1 Tryz.underlying29 rfl (by kernel_rfl) (hK _ _ ?_)); clear hK K)
    | (go_at_call 10; have hm0 := hm2; clear hm2 hm0; refine (HQ1.out _ (Xt.refl _)).mono ?_; rintro e w4 ⟨rfl, hg4⟩; have hx4 : Xt wc w4 := hg4.xt; clear hg4)
    | (go_at_call 10; have hm0 := hm3; clear hm3 hm0; refine (HQ2.out _ (HXB.out.trans (HXC.out.trans hx4))).mono ?_; rintro e w5 ⟨rfl, hg5⟩; have HX5 : Hid (Xt wc w5) := Lib.hid (hx4.trans hg5.xt); clear hg5 hx4))
  have hsA : w2.heap.size < wb.heap.size := (Array.getElem?_eq_some_iff.1 HRA.out).1
  have hlb : r.args.length ≤ 9223372036854775807 := by obtain ⟨_, _, e, h1, h2⟩ := HSA.out.own.shape; omega
  have hsB := HXC.out.size
  have hsC := HX5.out.size
  have hsW := HXB.out.size
  have hs3 : w3.heap.size < wc.heap.size := (Array.getElem?_eq_some_iff.1 HRD.out).1
  have hs23 : wb.heap.size ≤ w3.heap.size := HS3.out
  have hSA5 : Hid (SepIn (fun b => wA.heap.size ≤ b ∧ b < w2.heap.size) w5 n2 (.slice a2 r.args.length c2) r.args) := Lib.hid (HSA.out.keep (fun b hb hlt => (HXC.out.trans HX5.out).block b hlt))
  go_loopw [14] (fun s14 wr => ∃ (i : Nat) (l' : List NodeT), i ≤ r.args.length ∧ s14 = .int .i64 i ∧ l'.length = r.args.length ∧ Hid (Wr (fun b => wA.heap.size ≤ b ∧ b < w2.heap.size) w5 wr) ∧ Hid (SepIn (fun b => wA.heap.size ≤ b ∧ b < w2.heap.size) wr n2 (.slice a2 r.args.length c2) l')) (fun s14 _ => r.args.length - (intOf s14).toNat)
  case atStart => exact ⟨0, r.args, Nat.zero_le _, rfl, rfl, Wr.refl _ _, hSA5⟩
  case round =>
    clear hSA5
    obtain ⟨i, l', hi, rfl, hl', HW, HA⟩ := hrel
    have hrA := (HW.out.block w2.heap.size (by omega) (by omega)).trans (HRows.out _ HX5.out).2.2.1
    have d14 : wr.cell? ⟨w2.heap.size, 14, none⟩ = some (.slice a2 r.args.length c2) := by simp [World.cell?, hrA]
    have HRA6 := Lib.hid hrA
    clear hrA
    by_cases hlt : i < r.args.length
    · obtain ⟨x, hx⟩ : ∃ x, l'[i]? = some x := ⟨l'[i], by simp [hl', hlt]⟩
      obtain ⟨n', b, a', c', T, rfl, rfl, hb, hblt, hTS, hNu, hSu, hthere, hafter⟩ := HA.out.elem hx
      have hki : (i : Int) < (r.args.length : Int) := by omega
      obtain ⟨hS7, hW7⟩ := hafter wr (leafT 99 ⟨#[]⟩) (.slice none 0 0) (Wr.refl _ _) (SepIn.nil n')
      have HTH := Lib.hid (hthere wr (Wr.refl _ _))
      obtain ⟨wq, hwq⟩ : ∃ wq, wr.setCells b (i * 15) (nodeC (leafT 99 ⟨#[]⟩) (.slice none 0 0)).toArray.toList = wq := ⟨_, rfl⟩
      have HS7 : Hid (SepIn (fun b => wA.heap.size ≤ b ∧ b < w2.heap.size) wq (n' + 1) (.slice (some ⟨b, 0, none⟩) r.args.length c2) (l'.set i (leafT 99 ⟨#[]⟩))) := by unfold Hid; rw [← hwq, List.toList_toArray]; exact hS7
      have HW7 : Hid (Wr (fun b => wA.heap.size ≤ b ∧ b < w2.heap.size) wr wq) := by unfold Hid; rw [← hwq, List.toList_toArray]; exact hW7
      clear hafter hthere hS7 hW7 hSu hNu hx
      go_wp2_with (first
        | (refine wpList_store_mid (P := Tryz.prog) rfl 29 _ _ rfl b (i * 15) (nodeC (leafT 99 ⟨#[]⟩) (.slice none 0 0)).toArray rfl rfl HTH.out (by kernel_rfl) (all_oneCell_toArray (nodeC_one (leafT 99 ⟨#[]⟩) (.slice none 0 0) rfl)) ?_; rw [hwq]))
      go_roundw
      case rel => exact ⟨i + 1, l'.set i (leafT 99 ⟨#[]⟩), by omega, by go_num, by rw [List.length_set]; exact hl', HW.out.trans HW7.out, HS7.out⟩
      case measure => simp [intOf]; omega
    · obtain rfl : i = r.args.length := by omega
      have HXr : Hid (Xt wA wr) := Lib.hid (HW.out.xt (HXB.out.trans (HXC.out.trans HX5.out)) (fun b hb => hb.1))
      have HRBr := Lib.hid (rowX HXr.out HRB.out)
      have HRDr := Lib.hid ((HW.out.block w3.heap.size (by omega) (by omega)).trans (HRows.out _ HX5.out).2.2.2)
      have HOBr : Hid (OwnIn (fun b => wb.heap.size ≤ b) wr n3 (.slice a3 r'.args.length c3) r'.args) := Lib.hid (HOB.out.keep (fun b hb _ => hb) (fun b hb hlt => (HW.out.block b (by omega) (by omega)).trans (HX5.out.block b hlt)))
      have HXwr : Hid (Xt w wr) := Lib.hid (HX0.out.trans (HXA.out.trans HXr.out))
      have hm4 : True := trivial
      have hm5 : True := trivial
      have hm6 : True := trivial
      clear HA
      go_wp2_with (first
        | (refine wpList_load_row (P := Tryz.prog) rfl 29 _ rfl B rfl 29 #[.int .i64 t.kind, .int .i64 t.op, .float .f64 t.x, .string t.s, .bool t.b, .int .i64 t.f, .int .i64 t.ref.a.1, .int .i64 t.ref.a.2, .bool t.ref.cf, .bool t.ref.rf, .int .i64 t.to.a.1, .int .i64 t.to.a.2, .bool t.to.cf, .bool t.to.rf, .slice a t.args.length cap] (0, 0) _ HRBr.out Tryz.underlying29 rfl (by kernel_rfl) ?_)
        | (go_at_call 8; have hm0 := hm4; clear hm4 hm0; refine (formula_any n t a cap cols at_ cnt wr HOK.out (HT.out.xt HXwr.out) HSM.out (HIN.out.xt HXwr.out)).mono ?_; rw [HFR.out]; rintro e w7 ⟨a4, c4, n4, rfl, hS7, hx7⟩; obtain ⟨wd, hwd⟩ : ∃ wd, w7.alloc (.cells #[.int .i64 r.kind, .int .i64 r.op, .float .f64 r.x, .string r.s, .bool r.b, .int .i64 r.f, .int .i64 r.ref.a.1, .int .i64 r.ref.a.2, .bool r.ref.cf, .bool r.ref.rf, .int .i64 r.to.a.1, .int .i64 r.to.a.2, .bool r.to.cf, .bool r.to.rf, .slice a4 r.args.length c4] 29) = wd := ⟨_, rfl⟩; have HXD : Hid (Xt wr wd) := (by unfold Hid; rw [← hwd]; exact hx7.alloc _); have HRE : Hid (wd.heap[w7.heap.size]? = some (.cells #[.int .i64 r.kind, .int .i64 r.op, .float .f64 r.x, .string r.s, .bool r.b, .int .i64 r.f, .int .i64 r.ref.a.1, .int .i64 r.ref.a.2, .bool r.ref.cf, .bool r.ref.rf, .int .i64 r.to.a.1, .int .i64 r.to.a.2, .bool r.to.cf, .bool r.to.rf, .slice a4 r.args.length c4] 29 (0, 0))) := (by unfold Hid; rw [← hwd]; exact (MapKept.heap_alloc w7 _).1); have HSC : Hid (ArgsIn wd n4 (.slice a4 r.args.length c4) r.args) := (by unfold Hid; rw [← hwd]; exact hS7.own.args.xt ((Xt.refl _).alloc _)); have HRows2 : Hid (∀ V, Xt wd V → V.heap[B]? = some (.cells #[.int .i64 t.kind, .int .i64 t.op, .float .f64 t.x, .string t.s, .bool t.b, .int .i64 t.f, .int .i64 t.ref.a.1, .int .i64 t.ref.a.2, .bool t.ref.cf, .bool t.ref.rf, .int .i64 t.to.a.1, .int .i64 t.to.a.2, .bool t.to.cf, .bool t.to.rf, .slice a t.args.length cap] 29 (0, 0)) ∧ V.heap[w1.heap.size]? = some (.cells #[.int .i64 t.kind, .int .i64 t.op, .float .f64 (oneX t.x), .string t.s, .bool t.b, .int .i64 t.f, .int .i64 t.ref.a.1, .int .i64 t.ref.a.2, .bool t.ref.cf, .bool t.ref.rf, .int .i64 t.to.a.1, .int .i64 t.to.a.2, .bool t.to.cf, .bool t.to.rf, .slice a1 t.args.length t.args.length] 29 (0, 0)) ∧ V.heap[w7.heap.size]? = some (.cells #[.int .i64 r.kind, .int .i64 r.op, .float .f64 r.x, .string r.s, .bool r.b, .int .i64 r.f, .int .i64 r.ref.a.1, .int .i64 r.ref.a.2, .bool r.ref.cf, .bool r.ref.rf, .int .i64 r.to.a.1, .int .i64 r.to.a.2, .bool r.to.cf, .bool r.to.rf, .slice a4 r.args.length c4] 29 (0, 0)) ∧ V.heap[w3.heap.size]? = some (.cells #[.int .i64 r'.kind, .int .i64 r'.op, .float .f64 r'.x, .string r'.s, .bool r'.b, .int .i64 r'.f, .int .i64 r'.ref.a.1, .int .i64 r'.ref.a.2, .bool r'.ref.cf, .bool r'.ref.rf, .int .i64 r'.to.a.1, .int .i64 r'.to.a.2, .bool r'.to.cf, .bool r'.to.rf, .slice a3 r'.args.length c3] 29 (0, 0))) := Lib.hid (fun V hV => ⟨rowX hV (rowX HXD.out HRBr.out), rowX hV (rowX (HXr.out.trans HXD.out) HRW.out), rowX hV HRE.out, rowX hV (rowX HXD.out HRDr.out)⟩); have HQ3 : Hid (∀ V, Xt wd V → Calls Tryz.prog 10 #[nodeV r a4 r.args.length c4, nodeV r' a3 r'.args.length c3] V fun e w' => e = .returned (.bool true) ∧ Gr V w') := Lib.hid (fun V hV => by have h := fsame_any (n4 + n3) r r' a4 a3 c4 c3 V (ArgsIn.upK (by omega) (HSC.out.xt hV)) (ArgsIn.upK (by omega) ((HOBr.out.args.xt HXD.out).xt hV)); rw [HS1.out] at h; exact h); clear hS7 hx7)
        | (refine BigFrame.wpList_want (by rfl) (fun K hK => wp_load_row 29 _ rfl w7.heap.size rfl 29 _ (0, 0) _ (HRows2.out _ (by first | exact Xt.refl _ | assumption)).2.2.1 Tryz.underlying29 rfl (by kernel_rfl) (hK _ _ ?_)); clear hK K)
        | (refine BigFrame.wpList_want (by rfl) (fun K hK => wp_load_row 29 _ rfl w3.heap.size rfl 29 _ (0, 0) _ (HRows2.out _ (by first | exact Xt.refl _ | assumption)).2.2.2 Tryz.underlying29 rfl (by kernel_rfl) (hK _ _ ?_)); clear hK K)
        | (refine BigFrame.wpList_want (by rfl) (fun K hK => wp_load_row 29 _ rfl w1.heap.size rfl 29 _ (0, 0) _ (HRows2.out _ (by first | exact Xt.refl _ | assumption)).2.1 Tryz.underlying29 rfl (by kernel_rfl) (hK _ _ ?_)); clear hK K)
        | (refine BigFrame.wpList_want (by rfl) (fun K hK => wp_load_row 29 _ rfl B rfl 29 _ (0, 0) _ (HRows2.out _ (by first | exact Xt.refl _ | assumption)).1 Tryz.underlying29 rfl (by kernel_rfl) (hK _ _ ?_)); clear hK K)
        | (go_at_call 10; have hm0 := hm5; clear hm5 hm0; refine (HQ3.out _ (Xt.refl _)).mono ?_; rintro e w8 ⟨rfl, hg8⟩; have hx8 : Xt wd w8 := hg8.xt; clear hg8)
        | (go_at_call 10; have hm0 := hm6; clear hm6 hm0; refine (HQ2.out _ (HXr.out.trans (HXD.out.trans hx8))).mono ?_; rintro e w9 ⟨rfl, hg9⟩; have HX9 : Hid (Xt wd w9) := Lib.hid (hx8.trans hg9.xt); clear hg9 hx8)
        | (go_at_call 11; refine (known_any _ (HT.out.xt (HXwr.out.trans (HXD.out.trans HX9.out)))).mono ?_; rintro e wE ⟨rfl, hxE⟩))
      go_ret
      exact ⟨rfl, HXwr.out.trans (HXD.out.trans (HX9.out.trans hxE))⟩
end Go.Proofs.YtlgkaipgdhcajaaGreatDoor
