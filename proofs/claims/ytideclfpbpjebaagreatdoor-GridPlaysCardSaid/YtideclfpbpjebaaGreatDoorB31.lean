import Derived.Test.YtideclfpbpjebaaGreatDoorB25
import Derived.Test.YtideclfpbpjebaaGreatDoorB23
import Derived.Test.YtideclfpbpjebaaGreatDoorB29
import Derived.Deep.RegionHeld3
import Derived.Deep.MidRow
import Derived.Lib.AppendZeros
namespace Go.Proofs.YtideclfpbpjebaaGreatDoor
section
open Go.RowKit Go.Sort Go.Maps Go.Shelf Go.MapKept
attribute [local go_sem] Oper.semAt_some

/-- What holds in each world of a put. -/
structure DPW (w w3 : World) (rb : Nat) (v : Value) (a : Ad) (c : ContT) (ca : Option Addr) (cap : Nat) : Prop where
  xt : Xt w w3
  at_ : w3.heap[w.heap.size]? = some (.cells #[.int .i64 a.1, .int .i64 a.2] 36 (0, 0))
  con : w3.heap[w.heap.size + 1]? = some (.cells #[.int .i64 c.kind, .int .i64 c.v.kind, .float .f64 c.v.x, .string c.v.s, .bool c.v.b, .int .i64 c.v.f, .int .i64 c.t.kind, .int .i64 c.t.op, .float .f64 c.t.x, .string c.t.s, .bool c.t.b, .int .i64 c.t.f, .int .i64 c.t.ref.a.1, .int .i64 c.t.ref.a.2, .bool c.t.ref.cf, .bool c.t.ref.rf, .int .i64 c.t.to.a.1, .int .i64 c.t.to.a.2, .bool c.t.to.cf, .bool c.t.to.rf, .slice ca c.t.args.length cap] 46 (0, 0))
  obj : w3.heap[rb]? = some (.cells #[v] 31 (0, 0))
section
variable {w w3 w4 : World} {rb : Nat} {v : Value} {a : Ad} {c : ContT} {ca : Option Addr} {cap : Nat}
theorem DPW.step (h : DPW w w3 rb v a c ca cap) (hx : Xt w3 w4) : DPW w w4 rb v a c ca cap :=
  ⟨h.xt.trans hx, (hx.block _ (Array.getElem?_eq_some_iff.1 h.at_).1).trans h.at_, (hx.block _ (Array.getElem?_eq_some_iff.1 h.con).1).trans h.con, (hx.block _ (Array.getElem?_eq_some_iff.1 h.obj).1).trans h.obj⟩
theorem DPW.ad (h : DPW w w3 rb v a c ca cap) : w3.cell? ⟨w.heap.size, 0, none⟩ = some (.int .i64 a.1) ∧ w3.cell? ⟨w.heap.size, 1, none⟩ = some (.int .i64 a.2) := by
  have := h.at_
  constructor <;> simp [World.cell?, this]
theorem DPW.kind (h : DPW w w3 rb v a c ca cap) : w3.cell? ⟨w.heap.size + 1, 0, none⟩ = some (.int .i64 c.kind) := by
  have := h.con
  simp [World.cell?, this]
theorem DPW.cell (h : DPW w w3 rb v a c ca cap) : w3.cell? ⟨rb, 0, none⟩ = some v ∧ w3.frozen? ⟨rb, 0, none⟩ = false := by
  have := h.obj
  constructor <;> simp [World.cell?, World.frozen?, this]
end
theorem dput_start {w : World} {rb : Nat} {v : Value} (h : w.heap[rb]? = some (.cells #[v] 31 (0, 0))) (a : Ad) (c : ContT) (ca : Option Addr) (cap : Nat) : ∃ w1, (w.alloc (.cells #[.int .i64 a.1, .int .i64 a.2] 36)).alloc (.cells #[.int .i64 c.kind, .int .i64 c.v.kind, .float .f64 c.v.x, .string c.v.s, .bool c.v.b, .int .i64 c.v.f, .int .i64 c.t.kind, .int .i64 c.t.op, .float .f64 c.t.x, .string c.t.s, .bool c.t.b, .int .i64 c.t.f, .int .i64 c.t.ref.a.1, .int .i64 c.t.ref.a.2, .bool c.t.ref.cf, .bool c.t.ref.rf, .int .i64 c.t.to.a.1, .int .i64 c.t.to.a.2, .bool c.t.to.cf, .bool c.t.to.rf, .slice ca c.t.args.length cap] 46) = w1 ∧ DPW w w1 rb v a c ca cap := by
  refine ⟨_, rfl, ?_⟩
  have hx : Xt w ((w.alloc (.cells #[.int .i64 a.1, .int .i64 a.2] 36)).alloc (.cells #[.int .i64 c.kind, .int .i64 c.v.kind, .float .f64 c.v.x, .string c.v.s, .bool c.v.b, .int .i64 c.v.f, .int .i64 c.t.kind, .int .i64 c.t.op, .float .f64 c.t.x, .string c.t.s, .bool c.t.b, .int .i64 c.t.f, .int .i64 c.t.ref.a.1, .int .i64 c.t.ref.a.2, .bool c.t.ref.cf, .bool c.t.ref.rf, .int .i64 c.t.to.a.1, .int .i64 c.t.to.a.2, .bool c.t.to.cf, .bool c.t.to.rf, .slice ca c.t.args.length cap] 46)) := ((Xt.refl w).alloc _).alloc _
  refine ⟨hx, ?_, ?_, (hx.block _ (Array.getElem?_eq_some_iff.1 h).1).trans h⟩
  · exact (Below.heap_alloc _ _ _ (by simp)).trans (MapKept.heap_alloc w _).1
  · have := (MapKept.heap_alloc (w.alloc (.cells #[.int .i64 a.1, .int .i64 a.2] 36)) (.cells #[.int .i64 c.kind, .int .i64 c.v.kind, .float .f64 c.v.x, .string c.v.s, .bool c.v.b, .int .i64 c.v.f, .int .i64 c.t.kind, .int .i64 c.t.op, .float .f64 c.t.x, .string c.t.s, .bool c.t.b, .int .i64 c.t.f, .int .i64 c.t.ref.a.1, .int .i64 c.t.ref.a.2, .bool c.t.ref.cf, .bool c.t.ref.rf, .int .i64 c.t.to.a.1, .int .i64 c.t.to.a.2, .bool c.t.to.cf, .bool c.t.to.rf, .slice ca c.t.args.length cap] 46)).1
    simpa using this
/-- A grid whose list is a new one. -/
theorem DG.stored {w w1 : World} {rb : Nat} {l l' : List PI} {v : Value} (h : DG w rb l) (hx : Xt w w1) {base : Nat} (_hb : rb < base) (hp : PutsG w1 base v l') (hs : SortedM (pis l')) (hm : l'.length ≤ 4096) (hsm : ∀ x ∈ l', smallT x.c.t) : DG (w1.setCell ⟨rb, 0, none⟩ v) rb l' ∧ w.grownBy (w1.setCell ⟨rb, 0, none⟩ v) (some rb) := by
  obtain ⟨v0, ho, _⟩ := h.obj
  have ho1 : w1.heap[rb]? = some (.cells #[v0] 31 (0, 0)) := (hx.block _ h.lt).trans ho
  have hne : ∀ b o u, b ≠ rb → w1.cell? ⟨b, o, none⟩ = some u → (w1.setCell ⟨rb, 0, none⟩ v).cell? ⟨b, o, none⟩ = some u := fun b o u hb hu => (World.cell?_setCell_other w1 _ _ _ (by first | (simp; done) | (simp; omega) | (simp; intro e; exact absurd e.symm hb))).trans hu
  have hone : ∀ o u, w1.cell? ⟨rb, o, none⟩ = some u → o = 0 := fun o u hu => by
    simp only [World.cell?, ho1] at hu
    rcases o with _ | o
    · rfl
    · simp at hu
  refine ⟨⟨⟨v, ?_, ?_⟩, hs, hm, hsm⟩, ?_⟩
  · simp [World.setCell, ho1, Array.getElem?_modify]
  · refine PutsIn.but hp.puts hone hne
  · exact ⟨hx.os, hx.tape, hx.output, Nat.le_trans hx.size (by simp), fun k hk hn => (Below.heap_setCell _ _ _ _ (by simp; intro e; exact hn (by rw [e]))).trans (hx.block k hk)⟩
theorem OwnIn.toS {S : Nat → Prop} {w : World} : ∀ {n : Nat} {av : Value} {l : List NodeT}, OwnIn S w n av l → ArgsS S w n av l
  | 0, _, _, h => by obtain ⟨rfl, a, rfl⟩ := h; exact ⟨rfl, a, 0, rfl, by omega⟩
  | n + 1, _, l, h => by
    obtain ⟨a, cap, rfl, h1, h2, h3⟩ := h
    refine ⟨a, cap, rfl, h1, h2, fun hne => ?_⟩
    have hl : 0 < l.length := List.length_pos_iff.2 hne
    obtain ⟨b, cur, K, rfl, hS, _, _, _, hc⟩ := h3 (by omega)
    refine ⟨b, 0, rfl, hS, fun k t ht => ?_⟩
    obtain ⟨av', q1, q2⟩ := hc k t ht
    exact ⟨av', fun i u hu => by rw [Nat.zero_add]; exact q1 i u hu, q2.toS⟩
def DPutR (w : World) (rb : Nat) (l : List PI) (a : Ad) (c : ContT) (e : Ending) (w' : World) : Prop := ∃ l', e = .returned (.int .i64 (codeP (pis l) a c)) ∧ DG w' rb l' ∧ pis l' = putP (pis l) a c ∧ w.grownBy w' (some rb)
set_option maxRecDepth 100000 in
set_option maxHeartbeats 8000000 in
theorem dput_inv (n : Nat) (rb : Nat) (l : List PI) (a : Ad) (c : ContT) (ca : Option Addr) (cap : Nat) (w : World) (h : DG w rb l) (hok : c.ok) (hsm : smallT c.t) (hin : ArgsIn w n (.slice ca c.t.args.length cap) c.t.args) (hb : gvalidB c = false) : Calls Tryz.prog 21 #[.pointer (some ⟨rb, 0, none⟩), .agg #[.int .i64 a.1, .int .i64 a.2], contV c ca c.t.args.length cap] w fun e w' => e = .returned (.int .i64 1) ∧ Xt w w' := by
  have H := Lib.hid h
  obtain ⟨v, hv, hP⟩ := h.obj
  obtain ⟨la, lc, rfl, hlc, hlc2⟩ := hP.shape
  have hm := h.many
  obtain ⟨w1, hw1, hP1⟩ := dput_start hv a c ca cap
  have HP1 := Lib.hid hP1
  have HOB := Lib.hid hv
  have HPI := Lib.hid hP
  have HIN := Lib.hid hin
  have HSM := Lib.hid hsm
  have HOK := Lib.hid hok
  have HV := Lib.hid (fun W (hx : Xt w W) => gvalid17_any n c ca cap W hok (hin.xt hx))
  have HPL := Lib.hid (fun W (hx : Xt w W) => place17_any rb l a W (h.xt hx))
  obtain ⟨bi, hbi⟩ : ∃ b, (lkM a (pis l)).isSome = b := ⟨_, rfl⟩
  have HBI := Lib.hid hbi
  clear h hin hsm hok hv hP hP1 hbi
  have HB := Lib.hid hb
  obtain ⟨vb, hvb⟩ : ∃ b, validB a.1 a.2 = b := ⟨_, rfl⟩
  have HB2 := Lib.hid hvb
  clear hb hvb
  go_enter Tryz.func21, Tryz.ntmps21
  go_wp2_with (first
    | (go_at_call 42; refine (HV.out _ HP1.out.xt).mono ?_; rintro e w2 ⟨rfl, hx2⟩; try rw [HB.out]; replace HP1 := Lib.hid (HP1.out.step hx2.xt); obtain ⟨q0, q1⟩ := HP1.out.ad; have k1 := HP1.out.kind; have cc := HP1.out.cell; have cf := cc.2; have cc := cc.1; clear hx2)
    | (go_at_call 43; refine (valid10_any a.1 a.2 _).mono ?_; rintro e w3 ⟨rfl, hx3⟩; try rw [HB2.out]; replace HP1 := Lib.hid (HP1.out.step (w4 := w3) (by rw [hx3]; exact (Xt.refl _).alloc _)); obtain ⟨q0, q1⟩ := HP1.out.ad; have k1 := HP1.out.kind; have cc := HP1.out.cell; have cf := cc.2; have cc := cc.1; clear hx3)
    | (go_at_call 44; refine (HPL.out _ HP1.out.xt).mono ?_; rintro e w4 ⟨lo, is, rfl, hpos, hx4⟩; have his := (hpos.look H.out.sorted).1.symm.trans HBI.out; subst his; have HPOS := Lib.hid hpos; replace HP1 := Lib.hid (HP1.out.step hx4); obtain ⟨q0, q1⟩ := HP1.out.ad; have k1 := HP1.out.kind; have cc := HP1.out.cell; have cf := cc.2; have cc := cc.1; clear hx4 hpos)
    | (refine BigFrame.wpList_want (by rfl) (fun K hK => wp_load_row 46 _ rfl (w.heap.size + 1) rfl 46 _ (0, 0) _ HP1.out.con Tryz.underlying46 rfl (by kernel_rfl) (hK _ _ ?_)); clear hK K))
  go_ret
  exact ⟨rfl, HP1.out.xt⟩
set_option maxRecDepth 100000 in
set_option maxHeartbeats 8000000 in
theorem dput_ad (n : Nat) (rb : Nat) (l : List PI) (a : Ad) (c : ContT) (ca : Option Addr) (cap : Nat) (w : World) (h : DG w rb l) (hok : c.ok) (hsm : smallT c.t) (hin : ArgsIn w n (.slice ca c.t.args.length cap) c.t.args) (hb : gvalidB c = true) (hb2 : validB a.1 a.2 = false) : Calls Tryz.prog 21 #[.pointer (some ⟨rb, 0, none⟩), .agg #[.int .i64 a.1, .int .i64 a.2], contV c ca c.t.args.length cap] w fun e w' => e = .returned (.int .i64 20) ∧ Xt w w' := by
  have H := Lib.hid h
  obtain ⟨v, hv, hP⟩ := h.obj
  obtain ⟨la, lc, rfl, hlc, hlc2⟩ := hP.shape
  have hm := h.many
  obtain ⟨w1, hw1, hP1⟩ := dput_start hv a c ca cap
  have HP1 := Lib.hid hP1
  have HOB := Lib.hid hv
  have HPI := Lib.hid hP
  have HIN := Lib.hid hin
  have HSM := Lib.hid hsm
  have HOK := Lib.hid hok
  have HV := Lib.hid (fun W (hx : Xt w W) => gvalid17_any n c ca cap W hok (hin.xt hx))
  have HPL := Lib.hid (fun W (hx : Xt w W) => place17_any rb l a W (h.xt hx))
  obtain ⟨bi, hbi⟩ : ∃ b, (lkM a (pis l)).isSome = b := ⟨_, rfl⟩
  have HBI := Lib.hid hbi
  clear h hin hsm hok hv hP hP1 hbi
  have HB := Lib.hid hb
  have HB2 := Lib.hid hb2
  clear hb hb2
  go_enter Tryz.func21, Tryz.ntmps21
  go_wp2_with (first
    | (go_at_call 42; refine (HV.out _ HP1.out.xt).mono ?_; rintro e w2 ⟨rfl, hx2⟩; try rw [HB.out]; replace HP1 := Lib.hid (HP1.out.step hx2.xt); obtain ⟨q0, q1⟩ := HP1.out.ad; have k1 := HP1.out.kind; have cc := HP1.out.cell; have cf := cc.2; have cc := cc.1; clear hx2)
    | (go_at_call 43; refine (valid10_any a.1 a.2 _).mono ?_; rintro e w3 ⟨rfl, hx3⟩; try rw [HB2.out]; replace HP1 := Lib.hid (HP1.out.step (w4 := w3) (by rw [hx3]; exact (Xt.refl _).alloc _)); obtain ⟨q0, q1⟩ := HP1.out.ad; have k1 := HP1.out.kind; have cc := HP1.out.cell; have cf := cc.2; have cc := cc.1; clear hx3)
    | (go_at_call 44; refine (HPL.out _ HP1.out.xt).mono ?_; rintro e w4 ⟨lo, is, rfl, hpos, hx4⟩; have his := (hpos.look H.out.sorted).1.symm.trans HBI.out; subst his; have HPOS := Lib.hid hpos; replace HP1 := Lib.hid (HP1.out.step hx4); obtain ⟨q0, q1⟩ := HP1.out.ad; have k1 := HP1.out.kind; have cc := HP1.out.cell; have cf := cc.2; have cc := cc.1; clear hx4 hpos)
    | (refine BigFrame.wpList_want (by rfl) (fun K hK => wp_load_row 46 _ rfl (w.heap.size + 1) rfl 46 _ (0, 0) _ HP1.out.con Tryz.underlying46 rfl (by kernel_rfl) (hK _ _ ?_)); clear hK K))
  go_ret
  exact ⟨rfl, HP1.out.xt⟩
set_option maxRecDepth 100000 in
set_option maxHeartbeats 8000000 in
theorem dput_full (n : Nat) (rb : Nat) (l : List PI) (a : Ad) (c : ContT) (ca : Option Addr) (cap : Nat) (w : World) (h : DG w rb l) (hok : c.ok) (hsm : smallT c.t) (hin : ArgsIn w n (.slice ca c.t.args.length cap) c.t.args) (hb : gvalidB c = true) (hb2 : validB a.1 a.2 = true) (hk : ¬ c.kind = 0) (hf : fullP (pis l) a = true) : Calls Tryz.prog 21 #[.pointer (some ⟨rb, 0, none⟩), .agg #[.int .i64 a.1, .int .i64 a.2], contV c ca c.t.args.length cap] w fun e w' => e = .returned (.int .i64 41) ∧ Xt w w' := by
  have H := Lib.hid h
  obtain ⟨v, hv, hP⟩ := h.obj
  obtain ⟨la, lc, rfl, hlc, hlc2⟩ := hP.shape
  have hm := h.many
  obtain ⟨w1, hw1, hP1⟩ := dput_start hv a c ca cap
  have HP1 := Lib.hid hP1
  have HOB := Lib.hid hv
  have HPI := Lib.hid hP
  have HIN := Lib.hid hin
  have HSM := Lib.hid hsm
  have HOK := Lib.hid hok
  have HV := Lib.hid (fun W (hx : Xt w W) => gvalid17_any n c ca cap W hok (hin.xt hx))
  have HPL := Lib.hid (fun W (hx : Xt w W) => place17_any rb l a W (h.xt hx))
  obtain ⟨bi, hbi⟩ : ∃ b, (lkM a (pis l)).isSome = b := ⟨_, rfl⟩
  have HBI := Lib.hid hbi
  clear h hin hsm hok hv hP hP1 hbi
  have HB := Lib.hid hb
  have HB2 := Lib.hid hb2
  unfold fullP at hf
  rw [HBI.out, pis_len] at hf
  simp only [Bool.and_eq_true, Bool.not_eq_true', decide_eq_true_eq] at hf
  obtain ⟨hbi0, hl4⟩ := hf
  subst hbi0
  have hl5 : ¬ ((l.length : Int) < 4096) := by omega
  have hl6 : (4096 : Int) ≤ (l.length : Int) := by omega
  clear hb hb2
  go_enter Tryz.func21, Tryz.ntmps21
  go_wp2_with (first
    | (go_at_call 42; refine (HV.out _ HP1.out.xt).mono ?_; rintro e w2 ⟨rfl, hx2⟩; try rw [HB.out]; replace HP1 := Lib.hid (HP1.out.step hx2.xt); obtain ⟨q0, q1⟩ := HP1.out.ad; have k1 := HP1.out.kind; have cc := HP1.out.cell; have cf := cc.2; have cc := cc.1; clear hx2)
    | (go_at_call 43; refine (valid10_any a.1 a.2 _).mono ?_; rintro e w3 ⟨rfl, hx3⟩; try rw [HB2.out]; replace HP1 := Lib.hid (HP1.out.step (w4 := w3) (by rw [hx3]; exact (Xt.refl _).alloc _)); obtain ⟨q0, q1⟩ := HP1.out.ad; have k1 := HP1.out.kind; have cc := HP1.out.cell; have cf := cc.2; have cc := cc.1; clear hx3)
    | (go_at_call 44; refine (HPL.out _ HP1.out.xt).mono ?_; rintro e w4 ⟨lo, is, rfl, hpos, hx4⟩; have his := (hpos.look H.out.sorted).1.symm.trans HBI.out; subst his; have HPOS := Lib.hid hpos; replace HP1 := Lib.hid (HP1.out.step hx4); obtain ⟨q0, q1⟩ := HP1.out.ad; have k1 := HP1.out.kind; have cc := HP1.out.cell; have cf := cc.2; have cc := cc.1; clear hx4 hpos)
    | (refine BigFrame.wpList_want (by rfl) (fun K hK => wp_load_row 46 _ rfl (w.heap.size + 1) rfl 46 _ (0, 0) _ HP1.out.con Tryz.underlying46 rfl (by kernel_rfl) (hK _ _ ?_)); clear hK K))
  go_ret
  exact ⟨rfl, HP1.out.xt⟩

set_option maxRecDepth 100000 in
set_option maxHeartbeats 8000000 in
theorem dput_set0 (n : Nat) (rb : Nat) (l : List PI) (a : Ad) (c : ContT) (ca : Option Addr) (cap : Nat) (w : World) (h : DG w rb l) (hok : c.ok) (hsm : smallT c.t) (hin : ArgsIn w n (.slice ca c.t.args.length cap) c.t.args) (hb : gvalidB c = true) (hb2 : validB a.1 a.2 = true) (hk : ¬ c.kind = 0) (hi : (lkM a (pis l)).isSome = false) (hf : fullP (pis l) a = false) : Calls Tryz.prog 21 #[.pointer (some ⟨rb, 0, none⟩), .agg #[.int .i64 a.1, .int .i64 a.2], contV c ca c.t.args.length cap] w fun e w' => e = .returned (.int .i64 0) ∧ ∃ l', DG w' rb l' ∧ pis l' = setM a (copyC c) (pis l) ∧ w.grownBy w' (some rb) := by
  have H := Lib.hid h
  obtain ⟨v, hv, hP⟩ := h.obj
  obtain ⟨la, lc, rfl, hlc, hlc2⟩ := hP.shape
  have hm := h.many
  obtain ⟨w1, hw1, hP1⟩ := dput_start hv a c ca cap
  have HP1 := Lib.hid hP1
  have HOB := Lib.hid hv
  have HPI := Lib.hid hP
  have HIN := Lib.hid hin
  have HSM := Lib.hid hsm
  have HOK := Lib.hid hok
  have HV := Lib.hid (fun W (hx : Xt w W) => gvalid17_any n c ca cap W hok (hin.xt hx))
  have HPL := Lib.hid (fun W (hx : Xt w W) => place17_any rb l a W (h.xt hx))
  obtain ⟨bi, hbi⟩ : ∃ b, (lkM a (pis l)).isSome = b := ⟨_, rfl⟩
  have HBI := Lib.hid hbi
  clear h hin hsm hok hv hP hP1 hbi
  have HB := Lib.hid hb
  have HB2 := Lib.hid hb2
  have ebi : bi = false := HBI.out.symm.trans hi
  subst ebi
  unfold fullP at hf
  rw [hi, pis_len] at hf
  simp only [Bool.not_false, Bool.true_and, decide_eq_false_iff_not] at hf
  have hl5 : (l.length : Int) < 4096 := by omega
  have hl6 : ¬ (4096 : Int) ≤ (l.length : Int) := by omega
  clear hb hb2 hi hf
  go_enter Tryz.func21, Tryz.ntmps21
  go_upto_region 13 with (first
    | (go_at_call 42; refine (HV.out _ HP1.out.xt).mono ?_; rintro e w2 ⟨rfl, hx2⟩; try rw [HB.out]; replace HP1 := Lib.hid (HP1.out.step hx2.xt); obtain ⟨q0, q1⟩ := HP1.out.ad; have k1 := HP1.out.kind; have cc := HP1.out.cell; have cf := cc.2; have cc := cc.1; clear hx2)
    | (go_at_call 43; refine (valid10_any a.1 a.2 _).mono ?_; rintro e w3 ⟨rfl, hx3⟩; try rw [HB2.out]; replace HP1 := Lib.hid (HP1.out.step (w4 := w3) (by rw [hx3]; exact (Xt.refl _).alloc _)); obtain ⟨q0, q1⟩ := HP1.out.ad; have k1 := HP1.out.kind; have cc := HP1.out.cell; have cf := cc.2; have cc := cc.1; clear hx3)
    | (go_at_call 44; refine (HPL.out _ HP1.out.xt).mono ?_; rintro e w4 ⟨lo, is, rfl, hpos, hx4⟩; have his := (hpos.look H.out.sorted).1.symm.trans HBI.out; subst his; have HPOS := Lib.hid hpos; replace HP1 := Lib.hid (HP1.out.step hx4); obtain ⟨q0, q1⟩ := HP1.out.ad; have k1 := HP1.out.kind; have cc := HP1.out.cell; have cf := cc.2; have cc := cc.1; clear hx4 hpos; have hlo := HPOS.out.le; obtain ⟨a1, hs1, hS1⟩ := to_anyG (S := 29) Tryz.underlying29 rfl (fun w => by kernel_rfl) HPI.out.sl lo hlo; obtain ⟨v5, w5, hp5, hG5, hg5⟩ := PutsG.push (base := w4.heap.size) (PutsG.nil w4 w4.heap.size) (Nat.le_refl _) (hS1.keptC HP1.out.xt.cellsIn) (fun x hx => HPI.out.old HP1.out.xt (fun g hg => by cases hg) x (List.mem_of_mem_take hx)) (by simp only [List.length_nil, List.length_take]; omega) 29; have hb4 : w.heap.size + 1 < w4.heap.size := (Array.getElem?_eq_some_iff.1 HP1.out.con).1; have hsz5 := hg5.size; rw [List.nil_append] at hG5; have hx5 : Xt w4 w5 := (Xt.refl w4).grownB hg5 (fun m hm => by cases hm); have HP5 := Lib.hid (HP1.out.step hx5); have HG5 := Lib.hid hG5; have k5 := HP5.out.kind; have c5 := HP5.out.cell; have f5 := c5.2; replace c5 := c5.1; obtain ⟨a6, c6, hs6, hS6⟩ := from_anyG (S := 29) Tryz.underlying29 rfl (fun w => by kernel_rfl) HPI.out.sl (lo) (by omega); have HS6 := Lib.hid hS6; clear hS1 hx5 hG5 hg5 hS6)
    | (refine BigFrame.wpList_want (by rfl) (fun K hK => wp_load_row 46 _ rfl (w.heap.size + 1) rfl 46 _ (0, 0) _ HP1.out.con Tryz.underlying46 rfl (by kernel_rfl) (hK _ _ ?_)); clear hK K)
    | (at_builtin; refine Lib.wpList_append_run _ rfl _ _ _ _ rfl _ _ rfl rfl _ _ hp5 ?_; clear hp5))
  have HP6 := Lib.hid (HP5.out.step (Xt.refl w5).drew)
  have HG6 := Lib.hid (HG5.out.xt (Xt.refl w5).drew)
  obtain ⟨t0, t1⟩ := HP6.out.ad
  have hs6z : w.heap.size + 1 < w5.drew.heap.size := (Array.getElem?_eq_some_iff.1 HP6.out.con).1
  have HCP := Lib.hid (dcopyD n c ca cap w5.drew HSM.out (HIN.out.xt HP6.out.xt))
  refine wp_region_held_drew (S := fun W => W.cell? ⟨w.heap.size, 0, none⟩ = some (.int .i64 a.1) ∧ W.cell? ⟨w.heap.size, 1, none⟩ = some (.int .i64 a.2) ∧ W.heap[w.heap.size + 1]? = some (.cells #[.int .i64 c.kind, .int .i64 c.v.kind, .float .f64 c.v.x, .string c.v.s, .bool c.v.b, .int .i64 c.v.f, .int .i64 c.t.kind, .int .i64 c.t.op, .float .f64 c.t.x, .string c.t.s, .bool c.t.b, .int .i64 c.t.f, .int .i64 c.t.ref.a.1, .int .i64 c.t.ref.a.2, .bool c.t.ref.cf, .bool c.t.ref.rf, .int .i64 c.t.to.a.1, .int .i64 c.t.to.a.2, .bool c.t.to.cf, .bool c.t.to.rf, .slice ca c.t.args.length cap] 46 (0, 0))) (by kernel_rfl) ⟨t0, t1, HP6.out.con⟩ (fun hHeld => ?_)
  refine wpAnyH_take (i := 0) (oi := _) (v := ?_) rfl (by kernel_rfl) (by kernel_rfl) (by kernel_rfl) (fun _ _ _ h => h) (Or.inl ⟨by rfl, ?_⟩) (by assumption) ?_
  rotate_left
  · intro w hSw; (try dsimp only at hSw); obtain ⟨k0, k1, kr⟩ := hSw; clear kr; go_simp; first | done | with_reducible rfl
  try simp only [Act.put, List.getElem_toArray, List.getElem_cons_zero, List.setIfInBounds_toArray, List.set_cons_zero, List.set_cons_succ]
  refine wpAnyH_take (i := 1) (oi := _) (v := ?_) rfl (by kernel_rfl) (by kernel_rfl) (by kernel_rfl) (fun _ _ _ h => h) (Or.inl ⟨by rfl, ?_⟩) (by assumption) ?_
  rotate_left
  · intro w hSw; (try dsimp only at hSw); obtain ⟨k0, k1, kr⟩ := hSw; clear kr; go_simp; first | done | with_reducible rfl
  try simp only [Act.put, List.getElem_toArray, List.getElem_cons_zero, List.getElem_cons_succ, List.setIfInBounds_toArray, List.set_cons_zero, List.set_cons_succ]
  refine wpAnyH_take (i := 2) (oi := _) (v := .agg #[.int .i64 c.kind, .int .i64 c.v.kind, .float .f64 c.v.x, .string c.v.s, .bool c.v.b, .int .i64 c.v.f, .int .i64 c.t.kind, .int .i64 c.t.op, .float .f64 c.t.x, .string c.t.s, .bool c.t.b, .int .i64 c.t.f, .int .i64 c.t.ref.a.1, .int .i64 c.t.ref.a.2, .bool c.t.ref.cf, .bool c.t.ref.rf, .int .i64 c.t.to.a.1, .int .i64 c.t.to.a.2, .bool c.t.to.cf, .bool c.t.to.rf, .slice ca c.t.args.length cap]) rfl (by kernel_rfl) (by kernel_rfl) (by kernel_rfl) (fun _ _ _ h => h) (Or.inl ⟨by rfl, ?_⟩) (by assumption) ?_
  · intro w hSw; exact exec_load_row 46 _ (by rfl) _ (by rfl) 46 #[.int .i64 c.kind, .int .i64 c.v.kind, .float .f64 c.v.x, .string c.v.s, .bool c.v.b, .int .i64 c.v.f, .int .i64 c.t.kind, .int .i64 c.t.op, .float .f64 c.t.x, .string c.t.s, .bool c.t.b, .int .i64 c.t.f, .int .i64 c.t.ref.a.1, .int .i64 c.t.ref.a.2, .bool c.t.ref.cf, .bool c.t.ref.rf, .int .i64 c.t.to.a.1, .int .i64 c.t.to.a.2, .bool c.t.to.cf, .bool c.t.to.rf, .slice ca c.t.args.length cap] (0, 0) _ hSw.2.2 Tryz.underlying46 rfl (by kernel_rfl)
  try simp only [Act.put, List.getElem_toArray, List.getElem_cons_zero, List.getElem_cons_succ, List.setIfInBounds_toArray, List.set_cons_zero, List.set_cons_succ]
  refine wpAnyH_ready (rs := [3]) (by kernel_rfl) (by simp) ?_
  refine AllReadyH.cons (o := _) rfl (fun K hK => ?_) AllReadyH.nil
  go_simp
  refine (HCP.out).mono ?_
  rintro e w7 ⟨a7, k7, rfl, hA7, h7⟩
  obtain ⟨d, hd⟩ : ∃ d, copyC c = d := ⟨_, rfl⟩
  have hdok : d.ok := by rw [← hd]; exact okC_copy HOK.out
  have hdsm : smallT d.t := by rw [← hd]; exact smallT_copy _ HSM.out
  rw [hd] at hA7
  simp only [hd]
  have HD := Lib.hid hd
  clear hd
  have z0 := ((h7.cells).1 _ 0 (by omega)).trans t0
  have z1 := ((h7.cells).1 _ 1 (by omega)).trans t1
  have zr := (h7.block _ hs6z).trans HP6.out.con
  refine hK.out _ _ ⟨z0, z1, zr⟩ (fun hHeld2 => ?_)
  clear hK K
  try simp only [Act.put, List.getElem_toArray, List.getElem_cons_zero, List.getElem_cons_succ, List.setIfInBounds_toArray, List.set_cons_zero, List.set_cons_succ]
  refine wpAnyH_take (i := 4) (oi := _) (v := ?_) rfl (by kernel_rfl) (by kernel_rfl) (by kernel_rfl) (fun _ _ _ h => h) (Or.inl ⟨by rfl, ?_⟩) (by assumption) ?_
  rotate_left
  · intro w hSw; (try dsimp only at hSw); skip; go_simp; first | done | with_reducible rfl
  try simp only [Act.put, List.getElem_toArray, List.getElem_cons_zero, List.getElem_cons_succ, List.setIfInBounds_toArray, List.set_cons_zero, List.set_cons_succ]
  obtain ⟨wD, hwD⟩ : ∃ wD, w7.alloc (.cells #[.int .i64 a.1, .int .i64 a.2, .int .i64 d.kind, .int .i64 d.v.kind, .float .f64 d.v.x, .string d.v.s, .bool d.v.b, .int .i64 d.v.f, .int .i64 d.t.kind, .int .i64 d.t.op, .float .f64 d.t.x, .string d.t.s, .bool d.t.b, .int .i64 d.t.f, .int .i64 d.t.ref.a.1, .int .i64 d.t.ref.a.2, .bool d.t.ref.cf, .bool d.t.ref.rf, .int .i64 d.t.to.a.1, .int .i64 d.t.to.a.2, .bool d.t.to.cf, .bool d.t.to.rf, .slice a7 d.t.args.length k7] 84) = wD := ⟨_, rfl⟩
  have hx7D : Xt w7 wD := by rw [← hwD]; exact (Xt.refl w7).alloc _
  have hxwD : Xt w wD := (HP6.out.xt.trans h7).trans hx7D
  have hsl : SlOf wD inC1 23 (.slice (some ⟨w7.heap.size, 0, none⟩) 1 1) [(⟨a, d, a7, k7⟩ : PI)] := by
    refine ⟨_, 1, rfl, by simp, by omega, fun _ => ⟨w7.heap.size, 0, rfl, fun j x hx i u hu => ?_⟩⟩
    obtain rfl : j = 0 := by have := (List.getElem?_eq_some_iff.1 hx).1; simp at this; exact this
    have ex : (⟨a, d, a7, k7⟩ : PI) = x := by simpa using hx
    subst ex
    have h1 := news_at w7 (inC1 ⟨a, d, a7, k7⟩) 84 (b := w7.heap.size) rfl i u hu
    rw [Addr.add_lit] at h1
    have e1 : 0 + 0 * 23 + i = 0 + i := by omega
    rw [← hwD, e1]
    exact h1
  have hle6 := (Xt.refl w5).drew.size
  have hGD := HG6.out.xt (h7.trans hx7D)
  obtain ⟨v8, w8, hp8, hG8, hg8⟩ := hGD.push (by have := h7.size; have := hx7D.size; omega) hsl (fun x hx => by
    have ex : x = (⟨a, d, a7, k7⟩ : PI) := by simpa using hx
    subst ex
    refine ⟨hdok, n, (OwnIn.toS hA7).keep (fun b hb _ e => ?_) (fun b o _ hlt => (hx7D.cells).1 b o hlt)⟩
    have := (HG6.out.base b e).2
    omega) (by simp only [List.length_take, List.length_cons, List.length_nil]; omega) 29
  have hx8 : Xt w w8 := hxwD.grownB hg8 (fun m hm => by have := (HG6.out.base m (by first | exact hm | exact hm.symm)).1; omega)
  have HX8 := Lib.hid hx8
  have HG8 := Lib.hid hG8
  have hle7 := h7.size
  have hle8 := hx7D.size
  have hsD : wD.cell? ⟨w.heap.size, 0, none⟩ = some (.int .i64 a.1) ∧ wD.cell? ⟨w.heap.size, 1, none⟩ = some (.int .i64 a.2) ∧ wD.heap[w.heap.size + 1]? = some (.cells #[.int .i64 c.kind, .int .i64 c.v.kind, .float .f64 c.v.x, .string c.v.s, .bool c.v.b, .int .i64 c.v.f, .int .i64 c.t.kind, .int .i64 c.t.op, .float .f64 c.t.x, .string c.t.s, .bool c.t.b, .int .i64 c.t.f, .int .i64 c.t.ref.a.1, .int .i64 c.t.ref.a.2, .bool c.t.ref.cf, .bool c.t.ref.rf, .int .i64 c.t.to.a.1, .int .i64 c.t.to.a.2, .bool c.t.to.cf, .bool c.t.to.rf, .slice ca c.t.args.length cap] 46 (0, 0)) := ⟨((hx7D.cells).1 _ 0 (by omega)).trans z0, ((hx7D.cells).1 _ 1 (by omega)).trans z1, (hx7D.block _ (by omega)).trans zr⟩
  have hne : ∀ k, k < w.heap.size + 2 → some k ≠ v5.ownBlock := fun k q e => by have := (HG6.out.base k e.symm).1; omega
  have hsE : w8.cell? ⟨w.heap.size, 0, none⟩ = some (.int .i64 a.1) ∧ w8.cell? ⟨w.heap.size, 1, none⟩ = some (.int .i64 a.2) ∧ w8.heap[w.heap.size + 1]? = some (.cells #[.int .i64 c.kind, .int .i64 c.v.kind, .float .f64 c.v.x, .string c.v.s, .bool c.v.b, .int .i64 c.v.f, .int .i64 c.t.kind, .int .i64 c.t.op, .float .f64 c.t.x, .string c.t.s, .bool c.t.b, .int .i64 c.t.f, .int .i64 c.t.ref.a.1, .int .i64 c.t.ref.a.2, .bool c.t.ref.cf, .bool c.t.ref.rf, .int .i64 c.t.to.a.1, .int .i64 c.t.to.a.2, .bool c.t.to.cf, .bool c.t.to.rf, .slice ca c.t.args.length cap] 46 (0, 0)) := ⟨(World.cell?_of_block (w := wD) (a := ⟨w.heap.size, 0, none⟩) (hg8.block w.heap.size (by omega) (hne _ (by omega)))).trans hsD.1, (World.cell?_of_block (w := wD) (a := ⟨w.heap.size, 1, none⟩) (hg8.block w.heap.size (by omega) (hne _ (by omega)))).trans hsD.2.1, (hg8.block _ (by omega) (hne _ (by omega))).trans hsD.2.2⟩
  have HSD := Lib.hid hsD
  have HSE := Lib.hid hsE
  have hsz8 : w4.heap.size ≤ w8.heap.size := by have := hg8.size; omega
  obtain ⟨v9, w9, hp9, hG9, hg9⟩ := HG8.out.push hsz8 (HS6.out.keptC HX8.out.cellsIn) (fun x hx => HPI.out.old HX8.out (fun g hg => by have := (HG8.out.base g hg).1; omega) x (List.mem_of_mem_drop hx)) (by simp only [List.length_append, List.length_take, List.length_drop, List.length_cons, List.length_nil]; omega) 29
  have hx9 : Xt w w9 := HX8.out.grownB hg9 (fun m hm => by have := (HG8.out.base m (by first | exact hm | exact hm.symm)).1; omega)
  have HX9 := Lib.hid hx9
  obtain ⟨L9, hL9⟩ : ∃ n, (l.take lo ++ [(⟨a, d, a7, k7⟩ : PI)] ++ l.drop (lo)).length = n := ⟨_, rfl⟩
  obtain ⟨a9, k9, rfl, _, _⟩ := hG9.own.slice hL9
  clear hL9
  have HG9 := Lib.hid hG9
  have o8 := (hx8.block _ H.out.lt).trans HOB.out
  have c8 : w8.cell? ⟨rb, 0, none⟩ = some (.slice la l.length lc) := (by simp [World.cell?, o8])
  have o9 := (hx9.block _ H.out.lt).trans HOB.out
  have c9 : w9.cell? ⟨rb, 0, none⟩ = some (.slice la l.length lc) := (by simp [World.cell?, o9])
  have f9 : w9.frozen? ⟨rb, 0, none⟩ = false := (by simp [World.frozen?, o9])
  have HDO := Lib.hid hdok
  have HDS := Lib.hid hdsm
  clear hsl hGD hdok hdsm hx7D hxwD hG8 hg8 hx8 hsD hsE hne hG9 hg9 hx9 o8 o9 hA7 h7 z0 z1 zr t0 t1 HCP
  refine wpAnyH_ready (rs := [5]) (by kernel_rfl) (by simp) ?_
  refine AllReadyH.cons (o := _) rfl (fun K hK => ?_) AllReadyH.nil
  go_simp
  refine hK.out _ _ HSD.out (fun hHeld3 => ?_)
  clear hK K
  try simp only [Act.put, List.getElem_toArray, List.getElem_cons_zero, List.getElem_cons_succ, List.setIfInBounds_toArray, List.set_cons_zero, List.set_cons_succ]
  refine wpAnyH_ready (rs := [6]) (by kernel_rfl) (by simp) ?_
  refine AllReadyH.cons (o := _) rfl (fun K hK => ?_) AllReadyH.nil
  rw [if_pos (by rfl)]
  refine oper_append_eq _ _ 29 rfl _ _ rfl rfl hp8 ?_
  refine hK.out _ _ HSE.out (fun hHeld4 => ?_)
  clear hK K
  try simp only [Act.put, List.getElem_toArray, List.getElem_cons_zero, List.getElem_cons_succ, List.setIfInBounds_toArray, List.set_cons_zero, List.set_cons_succ]
  refine wpAnyH_take (i := 7) (oi := _) (v := ?_) rfl (by kernel_rfl) (by kernel_rfl) (by kernel_rfl) (fun _ _ _ h => h) (Or.inl ⟨by rfl, ?_⟩) (by assumption) ?_
  rotate_left
  · intro w hSw; (try dsimp only at hSw); skip; go_simp; first | done | with_reducible rfl
  try simp only [Act.put, List.getElem_toArray, List.getElem_cons_zero, List.getElem_cons_succ, List.setIfInBounds_toArray, List.set_cons_zero, List.set_cons_succ]
  refine wpAnyH_done (by kernel_rfl) ?_ _
  try clear hHeld4
  try clear hHeld3
  try clear hHeld2
  try clear hHeld
  try clear hwD
  try clear hp8
  clear hle6 hle7 hle8 hs6z hsz8 hsz5
  go_wp2_with (first
    | (at_builtin; refine Lib.wpList_append_run _ rfl _ _ _ _ rfl _ _ rfl rfl _ _ hp9 ?_; clear hp9))
  go_ret
  have hset := HPOS.out.set H.out.sorted ⟨a, d, a7, k7⟩ rfl
  simp only [Bool.false_eq_true, if_false] at hset
  rw [← HD.out] at hset
  rw [← HD.out] at HG9 HDO HDS
  obtain ⟨d1, d2⟩ := DG.stored H.out HX9.out (by have := H.out.lt; omega) HG9.out (by rw [hset]; exact sorted_setM a _ H.out.sorted) (by simp only [List.length_append, List.length_take, List.length_drop, List.length_cons, List.length_nil]; omega) (fun x hx => by
    rcases List.mem_append.1 hx with q | q
    · rcases List.mem_append.1 q with q | q
      · exact H.out.small x (List.mem_of_mem_take q)
      · rw [List.mem_singleton.1 q]; exact HDS.out
    · exact H.out.small x (List.mem_of_mem_drop q))
  exact ⟨rfl, _, d1, hset, d2⟩

set_option maxRecDepth 100000 in
set_option maxHeartbeats 8000000 in
theorem dput_set1 (n : Nat) (rb : Nat) (l : List PI) (a : Ad) (c : ContT) (ca : Option Addr) (cap : Nat) (w : World) (h : DG w rb l) (hok : c.ok) (hsm : smallT c.t) (hin : ArgsIn w n (.slice ca c.t.args.length cap) c.t.args) (hb : gvalidB c = true) (hb2 : validB a.1 a.2 = true) (hk : ¬ c.kind = 0) (hi : (lkM a (pis l)).isSome = true) (_hf : fullP (pis l) a = false) : Calls Tryz.prog 21 #[.pointer (some ⟨rb, 0, none⟩), .agg #[.int .i64 a.1, .int .i64 a.2], contV c ca c.t.args.length cap] w fun e w' => e = .returned (.int .i64 0) ∧ ∃ l', DG w' rb l' ∧ pis l' = setM a (copyC c) (pis l) ∧ w.grownBy w' (some rb) := by
  have H := Lib.hid h
  obtain ⟨v, hv, hP⟩ := h.obj
  obtain ⟨la, lc, rfl, hlc, hlc2⟩ := hP.shape
  have hm := h.many
  obtain ⟨w1, hw1, hP1⟩ := dput_start hv a c ca cap
  have HP1 := Lib.hid hP1
  have HOB := Lib.hid hv
  have HPI := Lib.hid hP
  have HIN := Lib.hid hin
  have HSM := Lib.hid hsm
  have HOK := Lib.hid hok
  have HV := Lib.hid (fun W (hx : Xt w W) => gvalid17_any n c ca cap W hok (hin.xt hx))
  have HPL := Lib.hid (fun W (hx : Xt w W) => place17_any rb l a W (h.xt hx))
  obtain ⟨bi, hbi⟩ : ∃ b, (lkM a (pis l)).isSome = b := ⟨_, rfl⟩
  have HBI := Lib.hid hbi
  clear h hin hsm hok hv hP hP1 hbi
  have HB := Lib.hid hb
  have HB2 := Lib.hid hb2
  have ebi : bi = true := HBI.out.symm.trans hi
  subst ebi
  clear hb hb2 hi 
  go_enter Tryz.func21, Tryz.ntmps21
  go_upto_region 13 with (first
    | (go_at_call 42; refine (HV.out _ HP1.out.xt).mono ?_; rintro e w2 ⟨rfl, hx2⟩; try rw [HB.out]; replace HP1 := Lib.hid (HP1.out.step hx2.xt); obtain ⟨q0, q1⟩ := HP1.out.ad; have k1 := HP1.out.kind; have cc := HP1.out.cell; have cf := cc.2; have cc := cc.1; clear hx2)
    | (go_at_call 43; refine (valid10_any a.1 a.2 _).mono ?_; rintro e w3 ⟨rfl, hx3⟩; try rw [HB2.out]; replace HP1 := Lib.hid (HP1.out.step (w4 := w3) (by rw [hx3]; exact (Xt.refl _).alloc _)); obtain ⟨q0, q1⟩ := HP1.out.ad; have k1 := HP1.out.kind; have cc := HP1.out.cell; have cf := cc.2; have cc := cc.1; clear hx3)
    | (go_at_call 44; refine (HPL.out _ HP1.out.xt).mono ?_; rintro e w4 ⟨lo, is, rfl, hpos, hx4⟩; have his := (hpos.look H.out.sorted).1.symm.trans HBI.out; subst his; have HPOS := Lib.hid hpos; replace HP1 := Lib.hid (HP1.out.step hx4); obtain ⟨q0, q1⟩ := HP1.out.ad; have k1 := HP1.out.kind; have cc := HP1.out.cell; have cf := cc.2; have cc := cc.1; clear hx4 hpos; have hlo := HPOS.out.le; obtain ⟨a1, hs1, hS1⟩ := to_anyG (S := 29) Tryz.underlying29 rfl (fun w => by kernel_rfl) HPI.out.sl lo hlo; obtain ⟨v5, w5, hp5, hG5, hg5⟩ := PutsG.push (base := w4.heap.size) (PutsG.nil w4 w4.heap.size) (Nat.le_refl _) (hS1.keptC HP1.out.xt.cellsIn) (fun x hx => HPI.out.old HP1.out.xt (fun g hg => by cases hg) x (List.mem_of_mem_take hx)) (by simp only [List.length_nil, List.length_take]; omega) 29; have hb4 : w.heap.size + 1 < w4.heap.size := (Array.getElem?_eq_some_iff.1 HP1.out.con).1; have hsz5 := hg5.size; rw [List.nil_append] at hG5; have hx5 : Xt w4 w5 := (Xt.refl w4).grownB hg5 (fun m hm => by cases hm); have HP5 := Lib.hid (HP1.out.step hx5); have HG5 := Lib.hid hG5; have k5 := HP5.out.kind; have c5 := HP5.out.cell; have f5 := c5.2; replace c5 := c5.1; have hll := (List.getElem?_eq_some_iff.1 (Classical.choose_spec (HPOS.out.there.1 rfl)).1).1; obtain ⟨a6, c6, hs6, hS6⟩ := from_anyG (S := 29) Tryz.underlying29 rfl (fun w => by kernel_rfl) HPI.out.sl (lo + 1) (by omega); have HS6 := Lib.hid hS6; have hza : IntKind.i64.wrap ((lo : Int) + 1) = ((lo + 1 : Nat) : Int) := (by rw [IntKind.wrap_i64]; omega); have hs6' := hs6; rw [show (((lo + 1 : Nat)) : Int) = (lo : Int) + 1 from by omega] at hs6'; clear hS1 hx5 hG5 hg5 hS6)
    | (refine BigFrame.wpList_want (by rfl) (fun K hK => wp_load_row 46 _ rfl (w.heap.size + 1) rfl 46 _ (0, 0) _ HP1.out.con Tryz.underlying46 rfl (by kernel_rfl) (hK _ _ ?_)); clear hK K)
    | (at_builtin; refine Lib.wpList_append_run _ rfl _ _ _ _ rfl _ _ rfl rfl _ _ hp5 ?_; clear hp5))
  have HP6 := Lib.hid (HP5.out.step (Xt.refl w5).drew)
  have HG6 := Lib.hid (HG5.out.xt (Xt.refl w5).drew)
  obtain ⟨t0, t1⟩ := HP6.out.ad
  have hs6z : w.heap.size + 1 < w5.drew.heap.size := (Array.getElem?_eq_some_iff.1 HP6.out.con).1
  have HCP := Lib.hid (dcopyD n c ca cap w5.drew HSM.out (HIN.out.xt HP6.out.xt))
  refine wp_region_held_drew (S := fun W => W.cell? ⟨w.heap.size, 0, none⟩ = some (.int .i64 a.1) ∧ W.cell? ⟨w.heap.size, 1, none⟩ = some (.int .i64 a.2) ∧ W.heap[w.heap.size + 1]? = some (.cells #[.int .i64 c.kind, .int .i64 c.v.kind, .float .f64 c.v.x, .string c.v.s, .bool c.v.b, .int .i64 c.v.f, .int .i64 c.t.kind, .int .i64 c.t.op, .float .f64 c.t.x, .string c.t.s, .bool c.t.b, .int .i64 c.t.f, .int .i64 c.t.ref.a.1, .int .i64 c.t.ref.a.2, .bool c.t.ref.cf, .bool c.t.ref.rf, .int .i64 c.t.to.a.1, .int .i64 c.t.to.a.2, .bool c.t.to.cf, .bool c.t.to.rf, .slice ca c.t.args.length cap] 46 (0, 0))) (by kernel_rfl) ⟨t0, t1, HP6.out.con⟩ (fun hHeld => ?_)
  refine wpAnyH_take (i := 0) (oi := _) (v := ?_) rfl (by kernel_rfl) (by kernel_rfl) (by kernel_rfl) (fun _ _ _ h => h) (Or.inl ⟨by rfl, ?_⟩) (by assumption) ?_
  rotate_left
  · intro w hSw; (try dsimp only at hSw); obtain ⟨k0, k1, kr⟩ := hSw; clear kr; go_simp; first | done | with_reducible rfl
  try simp only [Act.put, List.getElem_toArray, List.getElem_cons_zero, List.setIfInBounds_toArray, List.set_cons_zero, List.set_cons_succ]
  refine wpAnyH_take (i := 1) (oi := _) (v := ?_) rfl (by kernel_rfl) (by kernel_rfl) (by kernel_rfl) (fun _ _ _ h => h) (Or.inl ⟨by rfl, ?_⟩) (by assumption) ?_
  rotate_left
  · intro w hSw; (try dsimp only at hSw); obtain ⟨k0, k1, kr⟩ := hSw; clear kr; go_simp; first | done | with_reducible rfl
  try simp only [Act.put, List.getElem_toArray, List.getElem_cons_zero, List.getElem_cons_succ, List.setIfInBounds_toArray, List.set_cons_zero, List.set_cons_succ]
  refine wpAnyH_take (i := 2) (oi := _) (v := .agg #[.int .i64 c.kind, .int .i64 c.v.kind, .float .f64 c.v.x, .string c.v.s, .bool c.v.b, .int .i64 c.v.f, .int .i64 c.t.kind, .int .i64 c.t.op, .float .f64 c.t.x, .string c.t.s, .bool c.t.b, .int .i64 c.t.f, .int .i64 c.t.ref.a.1, .int .i64 c.t.ref.a.2, .bool c.t.ref.cf, .bool c.t.ref.rf, .int .i64 c.t.to.a.1, .int .i64 c.t.to.a.2, .bool c.t.to.cf, .bool c.t.to.rf, .slice ca c.t.args.length cap]) rfl (by kernel_rfl) (by kernel_rfl) (by kernel_rfl) (fun _ _ _ h => h) (Or.inl ⟨by rfl, ?_⟩) (by assumption) ?_
  · intro w hSw; exact exec_load_row 46 _ (by rfl) _ (by rfl) 46 #[.int .i64 c.kind, .int .i64 c.v.kind, .float .f64 c.v.x, .string c.v.s, .bool c.v.b, .int .i64 c.v.f, .int .i64 c.t.kind, .int .i64 c.t.op, .float .f64 c.t.x, .string c.t.s, .bool c.t.b, .int .i64 c.t.f, .int .i64 c.t.ref.a.1, .int .i64 c.t.ref.a.2, .bool c.t.ref.cf, .bool c.t.ref.rf, .int .i64 c.t.to.a.1, .int .i64 c.t.to.a.2, .bool c.t.to.cf, .bool c.t.to.rf, .slice ca c.t.args.length cap] (0, 0) _ hSw.2.2 Tryz.underlying46 rfl (by kernel_rfl)
  try simp only [Act.put, List.getElem_toArray, List.getElem_cons_zero, List.getElem_cons_succ, List.setIfInBounds_toArray, List.set_cons_zero, List.set_cons_succ]
  refine wpAnyH_ready (rs := [3]) (by kernel_rfl) (by simp) ?_
  refine AllReadyH.cons (o := _) rfl (fun K hK => ?_) AllReadyH.nil
  go_simp
  refine (HCP.out).mono ?_
  rintro e w7 ⟨a7, k7, rfl, hA7, h7⟩
  obtain ⟨d, hd⟩ : ∃ d, copyC c = d := ⟨_, rfl⟩
  have hdok : d.ok := by rw [← hd]; exact okC_copy HOK.out
  have hdsm : smallT d.t := by rw [← hd]; exact smallT_copy _ HSM.out
  rw [hd] at hA7
  simp only [hd]
  have HD := Lib.hid hd
  clear hd
  have z0 := ((h7.cells).1 _ 0 (by omega)).trans t0
  have z1 := ((h7.cells).1 _ 1 (by omega)).trans t1
  have zr := (h7.block _ hs6z).trans HP6.out.con
  refine hK.out _ _ ⟨z0, z1, zr⟩ (fun hHeld2 => ?_)
  clear hK K
  try simp only [Act.put, List.getElem_toArray, List.getElem_cons_zero, List.getElem_cons_succ, List.setIfInBounds_toArray, List.set_cons_zero, List.set_cons_succ]
  refine wpAnyH_take (i := 4) (oi := _) (v := ?_) rfl (by kernel_rfl) (by kernel_rfl) (by kernel_rfl) (fun _ _ _ h => h) (Or.inl ⟨by rfl, ?_⟩) (by assumption) ?_
  rotate_left
  · intro w hSw; (try dsimp only at hSw); skip; go_simp; first | done | with_reducible rfl
  try simp only [Act.put, List.getElem_toArray, List.getElem_cons_zero, List.getElem_cons_succ, List.setIfInBounds_toArray, List.set_cons_zero, List.set_cons_succ]
  obtain ⟨wD, hwD⟩ : ∃ wD, w7.alloc (.cells #[.int .i64 a.1, .int .i64 a.2, .int .i64 d.kind, .int .i64 d.v.kind, .float .f64 d.v.x, .string d.v.s, .bool d.v.b, .int .i64 d.v.f, .int .i64 d.t.kind, .int .i64 d.t.op, .float .f64 d.t.x, .string d.t.s, .bool d.t.b, .int .i64 d.t.f, .int .i64 d.t.ref.a.1, .int .i64 d.t.ref.a.2, .bool d.t.ref.cf, .bool d.t.ref.rf, .int .i64 d.t.to.a.1, .int .i64 d.t.to.a.2, .bool d.t.to.cf, .bool d.t.to.rf, .slice a7 d.t.args.length k7] 84) = wD := ⟨_, rfl⟩
  have hx7D : Xt w7 wD := by rw [← hwD]; exact (Xt.refl w7).alloc _
  have hxwD : Xt w wD := (HP6.out.xt.trans h7).trans hx7D
  have hsl : SlOf wD inC1 23 (.slice (some ⟨w7.heap.size, 0, none⟩) 1 1) [(⟨a, d, a7, k7⟩ : PI)] := by
    refine ⟨_, 1, rfl, by simp, by omega, fun _ => ⟨w7.heap.size, 0, rfl, fun j x hx i u hu => ?_⟩⟩
    obtain rfl : j = 0 := by have := (List.getElem?_eq_some_iff.1 hx).1; simp at this; exact this
    have ex : (⟨a, d, a7, k7⟩ : PI) = x := by simpa using hx
    subst ex
    have h1 := news_at w7 (inC1 ⟨a, d, a7, k7⟩) 84 (b := w7.heap.size) rfl i u hu
    rw [Addr.add_lit] at h1
    have e1 : 0 + 0 * 23 + i = 0 + i := by omega
    rw [← hwD, e1]
    exact h1
  have hle6 := (Xt.refl w5).drew.size
  have hGD := HG6.out.xt (h7.trans hx7D)
  obtain ⟨v8, w8, hp8, hG8, hg8⟩ := hGD.push (by have := h7.size; have := hx7D.size; omega) hsl (fun x hx => by
    have ex : x = (⟨a, d, a7, k7⟩ : PI) := by simpa using hx
    subst ex
    refine ⟨hdok, n, (OwnIn.toS hA7).keep (fun b hb _ e => ?_) (fun b o _ hlt => (hx7D.cells).1 b o hlt)⟩
    have := (HG6.out.base b e).2
    omega) (by simp only [List.length_take, List.length_cons, List.length_nil]; omega) 29
  have hx8 : Xt w w8 := hxwD.grownB hg8 (fun m hm => by have := (HG6.out.base m (by first | exact hm | exact hm.symm)).1; omega)
  have HX8 := Lib.hid hx8
  have HG8 := Lib.hid hG8
  have hle7 := h7.size
  have hle8 := hx7D.size
  have hsD : wD.cell? ⟨w.heap.size, 0, none⟩ = some (.int .i64 a.1) ∧ wD.cell? ⟨w.heap.size, 1, none⟩ = some (.int .i64 a.2) ∧ wD.heap[w.heap.size + 1]? = some (.cells #[.int .i64 c.kind, .int .i64 c.v.kind, .float .f64 c.v.x, .string c.v.s, .bool c.v.b, .int .i64 c.v.f, .int .i64 c.t.kind, .int .i64 c.t.op, .float .f64 c.t.x, .string c.t.s, .bool c.t.b, .int .i64 c.t.f, .int .i64 c.t.ref.a.1, .int .i64 c.t.ref.a.2, .bool c.t.ref.cf, .bool c.t.ref.rf, .int .i64 c.t.to.a.1, .int .i64 c.t.to.a.2, .bool c.t.to.cf, .bool c.t.to.rf, .slice ca c.t.args.length cap] 46 (0, 0)) := ⟨((hx7D.cells).1 _ 0 (by omega)).trans z0, ((hx7D.cells).1 _ 1 (by omega)).trans z1, (hx7D.block _ (by omega)).trans zr⟩
  have hne : ∀ k, k < w.heap.size + 2 → some k ≠ v5.ownBlock := fun k q e => by have := (HG6.out.base k e.symm).1; omega
  have hsE : w8.cell? ⟨w.heap.size, 0, none⟩ = some (.int .i64 a.1) ∧ w8.cell? ⟨w.heap.size, 1, none⟩ = some (.int .i64 a.2) ∧ w8.heap[w.heap.size + 1]? = some (.cells #[.int .i64 c.kind, .int .i64 c.v.kind, .float .f64 c.v.x, .string c.v.s, .bool c.v.b, .int .i64 c.v.f, .int .i64 c.t.kind, .int .i64 c.t.op, .float .f64 c.t.x, .string c.t.s, .bool c.t.b, .int .i64 c.t.f, .int .i64 c.t.ref.a.1, .int .i64 c.t.ref.a.2, .bool c.t.ref.cf, .bool c.t.ref.rf, .int .i64 c.t.to.a.1, .int .i64 c.t.to.a.2, .bool c.t.to.cf, .bool c.t.to.rf, .slice ca c.t.args.length cap] 46 (0, 0)) := ⟨(World.cell?_of_block (w := wD) (a := ⟨w.heap.size, 0, none⟩) (hg8.block w.heap.size (by omega) (hne _ (by omega)))).trans hsD.1, (World.cell?_of_block (w := wD) (a := ⟨w.heap.size, 1, none⟩) (hg8.block w.heap.size (by omega) (hne _ (by omega)))).trans hsD.2.1, (hg8.block _ (by omega) (hne _ (by omega))).trans hsD.2.2⟩
  have HSD := Lib.hid hsD
  have HSE := Lib.hid hsE
  have hsz8 : w4.heap.size ≤ w8.heap.size := by have := hg8.size; omega
  obtain ⟨v9, w9, hp9, hG9, hg9⟩ := HG8.out.push hsz8 (HS6.out.keptC HX8.out.cellsIn) (fun x hx => HPI.out.old HX8.out (fun g hg => by have := (HG8.out.base g hg).1; omega) x (List.mem_of_mem_drop hx)) (by simp only [List.length_append, List.length_take, List.length_drop, List.length_cons, List.length_nil]; omega) 29
  have hx9 : Xt w w9 := HX8.out.grownB hg9 (fun m hm => by have := (HG8.out.base m (by first | exact hm | exact hm.symm)).1; omega)
  have HX9 := Lib.hid hx9
  obtain ⟨L9, hL9⟩ : ∃ n, (l.take lo ++ [(⟨a, d, a7, k7⟩ : PI)] ++ l.drop (lo + 1)).length = n := ⟨_, rfl⟩
  obtain ⟨a9, k9, rfl, _, _⟩ := hG9.own.slice hL9
  clear hL9
  have HG9 := Lib.hid hG9
  have o8 := (hx8.block _ H.out.lt).trans HOB.out
  have c8 : w8.cell? ⟨rb, 0, none⟩ = some (.slice la l.length lc) := (by simp [World.cell?, o8])
  have o9 := (hx9.block _ H.out.lt).trans HOB.out
  have c9 : w9.cell? ⟨rb, 0, none⟩ = some (.slice la l.length lc) := (by simp [World.cell?, o9])
  have f9 : w9.frozen? ⟨rb, 0, none⟩ = false := (by simp [World.frozen?, o9])
  have HDO := Lib.hid hdok
  have HDS := Lib.hid hdsm
  clear hsl hGD hdok hdsm hx7D hxwD hG8 hg8 hx8 hsD hsE hne hG9 hg9 hx9 o8 o9 hA7 h7 z0 z1 zr t0 t1 HCP
  refine wpAnyH_ready (rs := [5]) (by kernel_rfl) (by simp) ?_
  refine AllReadyH.cons (o := _) rfl (fun K hK => ?_) AllReadyH.nil
  go_simp
  refine hK.out _ _ HSD.out (fun hHeld3 => ?_)
  clear hK K
  try simp only [Act.put, List.getElem_toArray, List.getElem_cons_zero, List.getElem_cons_succ, List.setIfInBounds_toArray, List.set_cons_zero, List.set_cons_succ]
  refine wpAnyH_ready (rs := [6]) (by kernel_rfl) (by simp) ?_
  refine AllReadyH.cons (o := _) rfl (fun K hK => ?_) AllReadyH.nil
  rw [if_pos (by rfl)]
  refine oper_append_eq _ _ 29 rfl _ _ rfl rfl hp8 ?_
  refine hK.out _ _ HSE.out (fun hHeld4 => ?_)
  clear hK K
  try simp only [Act.put, List.getElem_toArray, List.getElem_cons_zero, List.getElem_cons_succ, List.setIfInBounds_toArray, List.set_cons_zero, List.set_cons_succ]
  refine wpAnyH_take (i := 7) (oi := _) (v := ?_) rfl (by kernel_rfl) (by kernel_rfl) (by kernel_rfl) (fun _ _ _ h => h) (Or.inl ⟨by rfl, ?_⟩) (by assumption) ?_
  rotate_left
  · intro w hSw; (try dsimp only at hSw); skip; go_simp; first | done | with_reducible rfl
  try simp only [Act.put, List.getElem_toArray, List.getElem_cons_zero, List.getElem_cons_succ, List.setIfInBounds_toArray, List.set_cons_zero, List.set_cons_succ]
  refine wpAnyH_done (by kernel_rfl) ?_ _
  try clear hHeld4
  try clear hHeld3
  try clear hHeld2
  try clear hHeld
  try clear hwD
  try clear hp8
  clear hle6 hle7 hle8 hs6z hsz8 hsz5
  go_wp2_with (first
    | (at_builtin; refine Lib.wpList_append_run _ rfl _ _ _ _ rfl _ _ rfl rfl _ _ hp9 ?_; clear hp9))
  go_ret
  have hset := HPOS.out.set H.out.sorted ⟨a, d, a7, k7⟩ rfl
  simp only [if_true] at hset
  rw [← HD.out] at hset
  rw [← HD.out] at HG9 HDO HDS
  obtain ⟨d1, d2⟩ := DG.stored H.out HX9.out (by have := H.out.lt; omega) HG9.out (by rw [hset]; exact sorted_setM a _ H.out.sorted) (by simp only [List.length_append, List.length_take, List.length_drop, List.length_cons, List.length_nil]; omega) (fun x hx => by
    rcases List.mem_append.1 hx with q | q
    · rcases List.mem_append.1 q with q | q
      · exact H.out.small x (List.mem_of_mem_take q)
      · rw [List.mem_singleton.1 q]; exact HDS.out
    · exact H.out.small x (List.mem_of_mem_drop q))
  exact ⟨rfl, _, d1, hset, d2⟩
end
end Go.Proofs.YtideclfpbpjebaaGreatDoor
