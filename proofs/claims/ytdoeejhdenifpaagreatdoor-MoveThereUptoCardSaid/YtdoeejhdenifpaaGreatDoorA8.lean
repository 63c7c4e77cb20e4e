import Derived.Test.YtdoeejhdenifpaaGreatDoorZ1
import Derived.Test.YtdoeejhdenifpaaGreatDoorA5
import Derived.Test.YtdoeejhdenifpaaGreatDoorW20
import Derived.Test.YtdoeejhdenifpaaGreatDoorA6
import Derived.Test.YtdoeejhdenifpaaGreatDoorA2
import Derived.Deep.RegionHeld3
import Derived.Test.YtdoeejhdenifpaaGreatDoorA1
import Derived.Test.YtdoeejhdenifpaaGreatDoorA3
import Derived.Deep.MidRow
import Derived.ArgAppend
import Derived.Test.YtdoeejhdenifpaaGreatDoorA7
namespace Go.Proofs.YtdoeejhdenifpaaGreatDoor
open Go.RowKit Go.Sort

theorem small_of_heavy {c : ContT} (h : heavyB c = false) : smallT c.t := by
  unfold heavyB at h
  have := of_decide_eq_false h
  exact weightT_small c.t 1048576 (by omega) (by omega) (by omega)
end Go.Proofs.YtdoeejhdenifpaaGreatDoor
namespace Go.Proofs.YtdoeejhdenifpaaGreatDoor
open Go.RowKit Go.Sort

/-! ### Put (made by mkput.py) -/
def fullB (M : GM) (a : Ad) : Bool := !(lkM a M).isSome && decide (4096 ≤ M.length)
def putCode (M : GM) (a : Ad) (c : ContT) : Int := if gvalidB c = false then 1 else if validB a.1 a.2 = false then 20 else if (c.kind == 0) = true then 0 else if fullB M a = true then 41 else 0
def putTo (M : GM) (a : Ad) (c : ContT) (x : Option Addr) : GM := if gvalidB c = false then M else if validB a.1 a.2 = false then M else if (c.kind == 0) = true then delM a M else if fullB M a = true then M else setM a (copyC c, x) M
def PutR (w : World) (gb mb : Nat) (M : GM) (a : Ad) (c : ContT) (e : Ending) (w' : World) : Prop := ∃ x, e = .returned (.int .i64 (putCode M a c)) ∧ GridIs w' gb mb (putTo M a c x) ∧ w.grownBy w' (some mb)
mutual
theorem smallT_copy : ∀ t, smallT t → smallT (copyT t)
  | .mk k op x s b f r q args, h => by simp only [copyT, smallT] at h ⊢; exact ⟨by rw [copyL_map]; simpa using h.1, smallL_copy args h.2⟩
theorem smallL_copy : ∀ l, smallL l → smallL (copyL l)
  | [], h => h
  | t :: l, h => by simp only [copyL, smallL] at h ⊢; exact ⟨smallT_copy t h.1, smallL_copy l h.2⟩
end
/-- What holds in each world of a Put. -/
structure PutW (w w3 : World) (gb mb : Nat) (E : List (Ad × Value)) (a : Ad) (c : ContT) (ca : Option Addr) (cap : Nat) : Prop where
  xt : Xt w w3
  at_ : w3.heap[w.heap.size]? = some (.cells #[.int .i64 a.1, .int .i64 a.2] 24 (0, 0))
  con : w3.heap[w.heap.size + 1]? = some (.cells #[.int .i64 c.kind, .int .i64 c.v.kind, .float .f64 c.v.x, .string c.v.s, .bool c.v.b, .int .i64 c.v.f, .int .i64 c.t.kind, .int .i64 c.t.op, .float .f64 c.t.x, .string c.t.s, .bool c.t.b, .int .i64 c.t.f, .int .i64 c.t.ref.a.1, .int .i64 c.t.ref.a.2, .bool c.t.ref.cf, .bool c.t.ref.rf, .int .i64 c.t.to.a.1, .int .i64 c.t.to.a.2, .bool c.t.to.cf, .bool c.t.to.rf, .slice ca c.t.args.length cap] 51 (0, 0))
  cell : w3.cell? ⟨gb, 0, none⟩ = some (.map (some mb))
  map : MapIs w3 mb E
theorem PutW.step {w w3 w4 : World} {gb mb : Nat} {E : List (Ad × Value)} {a : Ad} {c : ContT} {ca : Option Addr} {cap : Nat} (h : PutW w w3 gb mb E a c ca cap) (hx : Xt w3 w4) : PutW w w4 gb mb E a c ca cap :=
  ⟨h.xt.trans hx, (hx.block _ (Array.getElem?_eq_some_iff.1 h.at_).1).trans h.at_, (hx.block _ (Array.getElem?_eq_some_iff.1 h.con).1).trans h.con, hx.cellsIn _ _ _ h.cell, h.map.of_heap (hx.block mb h.map.lt)⟩
theorem PutW.ad {w w3 : World} {gb mb : Nat} {E : List (Ad × Value)} {a : Ad} {c : ContT} {ca : Option Addr} {cap : Nat} (h : PutW w w3 gb mb E a c ca cap) : w3.cell? ⟨w.heap.size, 0, none⟩ = some (.int .i64 a.1) ∧ w3.cell? ⟨w.heap.size, 1, none⟩ = some (.int .i64 a.2) := by
  have := h.at_
  constructor <;> simp [World.cell?, this]
theorem PutW.kind {w w3 : World} {gb mb : Nat} {E : List (Ad × Value)} {a : Ad} {c : ContT} {ca : Option Addr} {cap : Nat} (h : PutW w w3 gb mb E a c ca cap) : w3.cell? ⟨w.heap.size + 1, 0, none⟩ = some (.int .i64 c.kind) := by
  have := h.con
  simp [World.cell?, this]
theorem put_start {w : World} {gb mb : Nat} {M : GM} (h : GridIs w gb mb M) (a : Ad) (c : ContT) (ca : Option Addr) (cap : Nat) : ∃ E, (∀ a, lk a E = (lkM a M).map ceV) ∧ ∃ w1, (w.alloc (.cells #[.int .i64 a.1, .int .i64 a.2] 24)).alloc (.cells #[.int .i64 c.kind, .int .i64 c.v.kind, .float .f64 c.v.x, .string c.v.s, .bool c.v.b, .int .i64 c.v.f, .int .i64 c.t.kind, .int .i64 c.t.op, .float .f64 c.t.x, .string c.t.s, .bool c.t.b, .int .i64 c.t.f, .int .i64 c.t.ref.a.1, .int .i64 c.t.ref.a.2, .bool c.t.ref.cf, .bool c.t.ref.rf, .int .i64 c.t.to.a.1, .int .i64 c.t.to.a.2, .bool c.t.to.cf, .bool c.t.to.rf, .slice ca c.t.args.length cap] 51) = w1 ∧ PutW w w1 gb mb E a c ca cap := by
  obtain ⟨E, hm, he⟩ := h.map
  refine ⟨E, he, _, rfl, ?_⟩
  have hx : Xt w ((w.alloc (.cells #[.int .i64 a.1, .int .i64 a.2] 24)).alloc (.cells #[.int .i64 c.kind, .int .i64 c.v.kind, .float .f64 c.v.x, .string c.v.s, .bool c.v.b, .int .i64 c.v.f, .int .i64 c.t.kind, .int .i64 c.t.op, .float .f64 c.t.x, .string c.t.s, .bool c.t.b, .int .i64 c.t.f, .int .i64 c.t.ref.a.1, .int .i64 c.t.ref.a.2, .bool c.t.ref.cf, .bool c.t.ref.rf, .int .i64 c.t.to.a.1, .int .i64 c.t.to.a.2, .bool c.t.to.cf, .bool c.t.to.rf, .slice ca c.t.args.length cap] 51)) := ((Xt.refl w).alloc _).alloc _
  refine ⟨hx, ?_, ?_, hx.cellsIn _ _ _ h.cell, hm.of_heap (hx.block mb hm.lt)⟩
  · exact (Below.heap_alloc _ _ _ (by simp)).trans (MapKept.heap_alloc w _).1
  · have := (MapKept.heap_alloc (w.alloc (.cells #[.int .i64 a.1, .int .i64 a.2] 24)) (.cells #[.int .i64 c.kind, .int .i64 c.v.kind, .float .f64 c.v.x, .string c.v.s, .bool c.v.b, .int .i64 c.v.f, .int .i64 c.t.kind, .int .i64 c.t.op, .float .f64 c.t.x, .string c.t.s, .bool c.t.b, .int .i64 c.t.f, .int .i64 c.t.ref.a.1, .int .i64 c.t.ref.a.2, .bool c.t.ref.cf, .bool c.t.ref.rf, .int .i64 c.t.to.a.1, .int .i64 c.t.to.a.2, .bool c.t.to.cf, .bool c.t.to.rf, .slice ca c.t.args.length cap] 51)).1
    simpa using this
set_option maxRecDepth 100000 in
theorem gputNil_any (a : Ad) (c : ContT) (ca : Option Addr) (cap : Nat) (w : World) : Calls Tryz.prog 25 #[.pointer none, .agg #[.int .i64 a.1, .int .i64 a.2], contV c ca c.t.args.length cap] w fun e w' => e = .returned (.int .i64 1) ∧ Xt w w' := by
  obtain ⟨w0, hw0⟩ : ∃ w0, w.alloc (.cells #[.int .i64 a.1, .int .i64 a.2] 24) = w0 := ⟨_, rfl⟩
  obtain ⟨w1, hw1⟩ : ∃ w1, w0.alloc (.cells #[.int .i64 c.kind, .int .i64 c.v.kind, .float .f64 c.v.x, .string c.v.s, .bool c.v.b, .int .i64 c.v.f, .int .i64 c.t.kind, .int .i64 c.t.op, .float .f64 c.t.x, .string c.t.s, .bool c.t.b, .int .i64 c.t.f, .int .i64 c.t.ref.a.1, .int .i64 c.t.ref.a.2, .bool c.t.ref.cf, .bool c.t.ref.rf, .int .i64 c.t.to.a.1, .int .i64 c.t.to.a.2, .bool c.t.to.cf, .bool c.t.to.rf, .slice ca c.t.args.length cap] 51) = w1 := ⟨_, rfl⟩
  have HX : Hid (Xt w w1) := by rw [← hw1, ← hw0]; exact ((Xt.refl _).alloc _).alloc _
  go_enter Tryz.func25, Tryz.ntmps25
  go_wp2_with fail
  go_ret
  exact ⟨rfl, HX.out⟩
set_option maxRecDepth 100000 in
set_option maxHeartbeats 4000000 in
theorem gput_inv (n : Nat) (gb mb : Nat) (M : GM) (a : Ad) (c : ContT) (ca : Option Addr) (cap : Nat) (w : World) (h : GridIs w gb mb M) (hok : c.ok) (hT : Tabs w) (hsm : smallT c.t) (hin : ArgsIn w n (.slice ca c.t.args.length cap) c.t.args) (hb : gvalidB c = false) : Calls Tryz.prog 25 #[.pointer (some ⟨gb, 0, none⟩), .agg #[.int .i64 a.1, .int .i64 a.2], contV c ca c.t.args.length cap] w fun e w' => e = .returned (.int .i64 1) ∧ Xt w w' := by
  have H := Lib.hid h
  obtain ⟨E, he, w1, hw1, hP1⟩ := put_start h a c ca cap
  have HE := Lib.hid he
  have HP1 := Lib.hid hP1
  have HLM : Hid (E.length = M.length) := Lib.hid ((H.out.xt hP1.xt).len hP1.map he)
  have HIN := Lib.hid hin
  have HSM := Lib.hid hsm
  have HV := Lib.hid (gvalid_any n c ca cap w1 hok (hT.xt hP1.xt) (hin.xt hP1.xt))
  clear h he hP1 hin hsm hok hT
  have HB := Lib.hid hb
  clear hb
  go_enter Tryz.func25, Tryz.ntmps25
  go_wp2_with (first
    | (refine HV.out.mono ?_; rintro e w2 ⟨rfl, hx2⟩; rw [HB.out]; have HP2 := Lib.hid (HP1.out.step hx2); have hc2 := HP2.out.cell; obtain ⟨d0, d1⟩ := HP2.out.ad;  clear hx2)
    | (refine BigFrame.wpList_want (by rfl) (fun K hK => wp_load_row 51 _ rfl (w.heap.size + 1) rfl 51 _ (0, 0) _ HP1.out.con Tryz.underlying51 rfl (by kernel_rfl) (hK _ _ ?_)); clear hK K))
  go_ret
  exact ⟨rfl, HP2.out.xt⟩
set_option maxRecDepth 100000 in
set_option maxHeartbeats 4000000 in
theorem gput_ad (n : Nat) (gb mb : Nat) (M : GM) (a : Ad) (c : ContT) (ca : Option Addr) (cap : Nat) (w : World) (h : GridIs w gb mb M) (hok : c.ok) (hT : Tabs w) (hsm : smallT c.t) (hin : ArgsIn w n (.slice ca c.t.args.length cap) c.t.args) (hb : gvalidB c = true) (hb2 : validB a.1 a.2 = false) : Calls Tryz.prog 25 #[.pointer (some ⟨gb, 0, none⟩), .agg #[.int .i64 a.1, .int .i64 a.2], contV c ca c.t.args.length cap] w fun e w' => e = .returned (.int .i64 20) ∧ Xt w w' := by
  have H := Lib.hid h
  obtain ⟨E, he, w1, hw1, hP1⟩ := put_start h a c ca cap
  have HE := Lib.hid he
  have HP1 := Lib.hid hP1
  have HLM : Hid (E.length = M.length) := Lib.hid ((H.out.xt hP1.xt).len hP1.map he)
  have HIN := Lib.hid hin
  have HSM := Lib.hid hsm
  have HV := Lib.hid (gvalid_any n c ca cap w1 hok (hT.xt hP1.xt) (hin.xt hP1.xt))
  clear h he hP1 hin hsm hok hT
  have HB := Lib.hid hb
  have HB2 := Lib.hid hb2
  clear hb hb2
  go_enter Tryz.func25, Tryz.ntmps25
  go_wp2_with (first
    | (refine HV.out.mono ?_; rintro e w2 ⟨rfl, hx2⟩; rw [HB.out]; have HP2 := Lib.hid (HP1.out.step hx2); have hc2 := HP2.out.cell; obtain ⟨d0, d1⟩ := HP2.out.ad;  clear hx2)
    | (refine (valid_gr a.1 a.2 w2).mono ?_; rintro e w3 ⟨rfl, hg3⟩; rw [HB2.out]; have HP3 := Lib.hid (HP2.out.step hg3.xt); have hc3 := HP3.out.cell; obtain ⟨p0, p1⟩ := HP3.out.ad; have k3 := HP3.out.kind; clear hg3)
    | (refine BigFrame.wpList_want (by rfl) (fun K hK => wp_load_row 51 _ rfl (w.heap.size + 1) rfl 51 _ (0, 0) _ HP1.out.con Tryz.underlying51 rfl (by kernel_rfl) (hK _ _ ?_)); clear hK K))
  go_ret
  exact ⟨rfl, HP3.out.xt⟩
set_option maxRecDepth 100000 in
set_option maxHeartbeats 4000000 in
theorem gput_del (n : Nat) (gb mb : Nat) (M : GM) (a : Ad) (c : ContT) (ca : Option Addr) (cap : Nat) (w : World) (h : GridIs w gb mb M) (hok : c.ok) (hT : Tabs w) (hsm : smallT c.t) (hin : ArgsIn w n (.slice ca c.t.args.length cap) c.t.args) (hb : gvalidB c = true) (hb2 : validB a.1 a.2 = true) (hk : (c.kind == 0) = true) : Calls Tryz.prog 25 #[.pointer (some ⟨gb, 0, none⟩), .agg #[.int .i64 a.1, .int .i64 a.2], contV c ca c.t.args.length cap] w fun e w' => e = .returned (.int .i64 0) ∧ GridIs w' gb mb (delM a M) ∧ w.grownBy w' (some mb) := by
  have H := Lib.hid h
  obtain ⟨E, he, w1, hw1, hP1⟩ := put_start h a c ca cap
  have HE := Lib.hid he
  have HP1 := Lib.hid hP1
  have HLM : Hid (E.length = M.length) := Lib.hid ((H.out.xt hP1.xt).len hP1.map he)
  have HIN := Lib.hid hin
  have HSM := Lib.hid hsm
  have HV := Lib.hid (gvalid_any n c ca cap w1 hok (hT.xt hP1.xt) (hin.xt hP1.xt))
  clear h he hP1 hin hsm hok hT
  have HB := Lib.hid hb
  have HB2 := Lib.hid hb2
  clear hb hb2
  go_enter Tryz.func25, Tryz.ntmps25
  go_wp2_with (first
    | (refine HV.out.mono ?_; rintro e w2 ⟨rfl, hx2⟩; rw [HB.out]; have HP2 := Lib.hid (HP1.out.step hx2); have hc2 := HP2.out.cell; obtain ⟨d0, d1⟩ := HP2.out.ad;  clear hx2)
    | (refine (valid_gr a.1 a.2 w2).mono ?_; rintro e w3 ⟨rfl, hg3⟩; rw [HB2.out]; have HP3 := Lib.hid (HP2.out.step hg3.xt); have hc3 := HP3.out.cell; obtain ⟨p0, p1⟩ := HP3.out.ad; have k3 := HP3.out.kind; clear hg3)
    | (refine BigFrame.wpList_want (by rfl) (fun K hK => wp_load_row 51 _ rfl (w.heap.size + 1) rfl 51 _ (0, 0) _ HP1.out.con Tryz.underlying51 rfl (by kernel_rfl) (hK _ _ ?_)); clear hK K))
  refine wp_region_still_tail 5 (by kernel_rfl) (by kernel_rfl) ?_
  change wpStill _ _ (World.drew _) _ _ _
  simp only [List.take_succ_cons, List.take_zero, List.drop_succ_cons, List.drop_zero]
  still_step
  still_step
  still_step
  still_step
  still_step
  refine wpStill_nil ?_
  change wpList _ _ _ _ _ (World.drew _)
  refine wpList_delete_it _ rfl _ _ 100 24 24 51 rfl adrKey Tryz.underlying100 mb E rfl a.1 a.2 rfl (by exact HP3.out.map) ?_
  intro w4 hm4 hg4 hs4
  have HM4 := Lib.hid hm4
  have HG4 := Lib.hid hg4
  clear hm4 hg4
  go_wp2_with fail
  go_ret
  have hg4' : w3.grownBy w4 (some mb) := ⟨HG4.out.os, HG4.out.tape, HG4.out.output, HG4.out.size, HG4.out.block⟩
  refine ⟨rfl, H.out.del (HP3.out.xt.cellsIn.trans (CellsIn.of_grown HP3.out.map hg4')) HE.out rfl HM4.out, ?_⟩
  have hx := HP3.out.xt
  exact ⟨hg4'.os.trans hx.os, hg4'.tape.trans hx.tape, hg4'.output.trans hx.output, Nat.le_trans hx.size hg4'.size, fun k hk hne => (hg4'.block k (Nat.lt_of_lt_of_le hk hx.size) hne).trans (hx.block k hk)⟩
end Go.Proofs.YtdoeejhdenifpaaGreatDoor
/- What a copy has is valid as what it was copied from. -/
namespace Go.Proofs.YtdoeejhdenifpaaGreatDoor
open Go.RowKit Go.Sort

/-! ### a copy's answers -/
theorem nan_nan : (FloatKind.format .f64).order 9221120237041090560 9221120237041090560 != some .eq := by decide +kernel
theorem one_cases (x : Nat) : oneX x = x ∨ (oneX x = 9221120237041090560 ∧ ((FloatKind.format .f64).order x x != some .eq) = true) := by
  unfold oneX
  cases h : ((FloatKind.format .f64).order x x != some .eq)
  · exact Or.inl rfl
  · exact Or.inr ⟨rfl, rfl⟩
theorem oneX_idem (x : Nat) : oneX (oneX x) = oneX x := by
  rcases one_cases x with h | ⟨h, _⟩
  · rw [h, h]
  · rw [h]; unfold oneX; rw [if_pos nan_nan]
theorem classX_one (x : Nat) : classX (oneX x) = classX x := by
  rcases one_cases x with h | ⟨h, h2⟩
  · rw [h]
  · rw [h]
    have e1 : classX 9221120237041090560 = 1 := by unfold classX ordX; rw [if_pos nan_nan]
    have e2 : classX x = 1 := by unfold classX ordX; rw [if_pos h2]
    rw [e1, e2]
theorem beq_of_bne {a : Option Ordering} (h : (a != some .eq) = true) : (a == some .eq) = false := by
  cases a with
  | none => rfl
  | some o => cases o <;> first | rfl | (exact absurd h (by decide))
theorem negX_one (x : Nat) : negX (oneX x) = negX x := by
  rcases one_cases x with h | ⟨h, h2⟩
  · rw [h]
  · rw [h]; unfold negX; rw [beq_of_bne h2, beq_of_bne nan_nan, Bool.false_and, Bool.false_and]
theorem zero_zero : ((FloatKind.format .f64).order 0 0 != some .eq) = false := by decide +kernel
theorem oneX_zero (x : Nat) : oneX x = 0 ↔ x = 0 := by
  rcases one_cases x with h | ⟨h, h2⟩
  · rw [h]
  · rw [h]
    constructor
    · intro e; exact absurd e (by decide)
    · rintro rfl; rw [zero_zero] at h2; cases h2
mutual
theorem copyT_idem : ∀ t : NodeT, copyT (copyT t) = copyT t
  | .mk k op x s b f r q args => by simp only [copyT, oneX_idem, copyL_idem args]
theorem copyL_idem : ∀ l : List NodeT, copyL (copyL l) = copyL l
  | [] => rfl
  | t :: r => by simp only [copyL, copyT_idem t, copyL_idem r]
end
theorem copyL_len (l : List NodeT) : (copyL l).length = l.length := by rw [copyL_map]; simp
mutual
theorem measT_copy : ∀ t : NodeT, measT (copyT t) = measT t
  | .mk k op x s b f r q args => by simp only [copyT, measT, measL_copy args]
theorem measL_copy : ∀ (l : List NodeT) (n d : Int), measL (copyL l) n d = measL l n d
  | [], n, d => rfl
  | t :: r, n, d => by simp only [copyL, measL, measT_copy t, measL_copy r]
end
theorem alike_iff (t u : NodeT) : alikeB t u = true ↔ t.kind = u.kind ∧ t.op = u.op ∧ ((oneX t.x : Nat) : Int) = ((oneX u.x : Nat) : Int) ∧ t.s.toList = u.s.toList ∧ t.b = u.b ∧ t.f = u.f ∧ refB t.ref u.ref = true ∧ refB t.to u.to = true := by
  unfold alikeB
  simp only [Bool.and_eq_true, decide_eq_true_eq, and_assoc]
theorem alikeB_x (k op : Int) (x y : Nat) (s : ByteArray) (b : Bool) (f : Int) (r q : RefT) (args : List NodeT) (t : NodeT) (h : oneX x = oneX y) : alikeB t (.mk k op x s b f r q args) = alikeB t (.mk k op y s b f r q args) := by
  rw [Bool.eq_iff_iff, alike_iff, alike_iff]
  show (_ ∧ _ ∧ _ = ((oneX x : Nat) : Int) ∧ _) ↔ (_ ∧ _ ∧ _ = ((oneX y : Nat) : Int) ∧ _)
  rw [h]; exact Iff.rfl
theorem alikeB_l (k op : Int) (x y : Nat) (s : ByteArray) (b : Bool) (f : Int) (r q : RefT) (a1 a2 : List NodeT) (t : NodeT) (h : oneX x = oneX y) : alikeB (.mk k op x s b f r q a1) t = alikeB (.mk k op y s b f r q a2) t := by
  rw [Bool.eq_iff_iff, alike_iff, alike_iff]
  show (_ ∧ _ ∧ ((oneX x : Nat) : Int) = _ ∧ _) ↔ (_ ∧ _ ∧ ((oneX y : Nat) : Int) = _ ∧ _)
  rw [h]; exact Iff.rfl
theorem madeB_copy (t : NodeT) : madeB (copyT t) = madeB t := by
  obtain ⟨k, op, x, s, b, f, r, q, args⟩ := t
  have hl := fun u => alikeB_l k op (oneX x) x s b f r q (copyL args) args u (oneX_idem x)
  simp only [copyT, madeB, classX_one, negX_one, copyL_len, hl]
  rw [alikeB_x 1 0 (oneX x) x ⟨#[]⟩ false 0 zR zR [] _ (oneX_idem x)]
mutual
theorem faultT_copy : ∀ (t : NodeT) (i : Bool), faultT (copyT t) i = faultT t i
  | .mk k op x s b f r q args, i => by
    have hm := madeB_copy (.mk k op x s b f r q args)
    simp only [copyT] at hm ⊢
    rw [faultT, faultT, hm, faultL_copy args, copyL_len]
theorem faultL_copy : ∀ (l : List NodeT) (c : Bool), faultL (copyL l) c = faultL l c
  | [], c => rfl
  | t :: r, c => by rw [copyL, faultL, faultL, faultT_copy t, faultL_copy r]
end
theorem checkT_copy (t : NodeT) : checkT (copyT t) = checkT t := by unfold checkT; rw [measT_copy, faultT_copy]
theorem dec_one (x : Nat) : decide (((oneX x : Nat) : Int) = 0) = decide ((x : Int) = 0) := by
  have h := oneX_zero x
  rw [decide_eq_decide]; omega
theorem noNodeB_copy (t : NodeT) : noNodeB (copyT t) = noNodeB t := by
  unfold noNodeB
  rw [copyT_kind, copyT_op, copyT_x, copyT_s, copyT_b, copyT_f, copyT_ref, copyT_to, copyT_len, dec_one]
theorem noValB_copy (v : ValT) : noValB { v with x := oneX v.x } = noValB v := by unfold noValB; simp only [dec_one]
theorem vvalidB_copy (v : ValT) : vvalidB { v with x := oneX v.x } = vvalidB v := by unfold vvalidB restB; simp only [dec_one]
theorem gvalidB_copy (c : ContT) : gvalidB (copyC c) = gvalidB c := by
  unfold gvalidB copyC
  simp only [noValB_copy, noNodeB_copy, vvalidB_copy, checkT_copy]
theorem copyC_idem (c : ContT) : copyC (copyC c) = copyC c := by unfold copyC; simp only [oneX_idem, copyT_idem]
theorem zeroC_copy : copyC zeroC = zeroC := by
  have : oneX 0 = 0 := (oneX_zero 0).2 rfl
  simp only [copyC, zeroC, copyT, copyL, this]
theorem oneX_lt {x : Nat} (h : x < 18446744073709551616) : oneX x < 18446744073709551616 := by unfold oneX; split <;> omega
mutual
theorem okT_copy : ∀ t : NodeT, t.ok → (copyT t).ok
  | .mk k op x s b f r q args, h => by simp only [copyT, NodeT.ok] at h ⊢; exact ⟨h.1, oneX_lt h.2.1, okL_copy args h.2.2⟩
theorem okL_copy : ∀ l : List NodeT, okL l → okL (copyL l)
  | [], h => h
  | t :: r, h => by simp only [copyL, okL] at h ⊢; exact ⟨okT_copy t h.1, okL_copy r h.2⟩
end
theorem okC_copy {c : ContT} (h : c.ok) : (copyC c).ok := ⟨h.1, okT_copy _ h.2.1, oneX_lt h.2.2⟩
end Go.Proofs.YtdoeejhdenifpaaGreatDoor
namespace Go.Proofs.YtdoeejhdenifpaaGreatDoor
open Go.RowKit Go.Sort

/-! ### Put, the last cases (made by mkput.py) -/
set_option maxRecDepth 100000 in
set_option maxHeartbeats 4000000 in
theorem gput_full (n : Nat) (gb mb : Nat) (M : GM) (a : Ad) (c : ContT) (ca : Option Addr) (cap : Nat) (w : World) (h : GridIs w gb mb M) (hok : c.ok) (hT : Tabs w) (hsm : smallT c.t) (hin : ArgsIn w n (.slice ca c.t.args.length cap) c.t.args) (hb : gvalidB c = true) (hb2 : validB a.1 a.2 = true) (hk : (c.kind == 0) = false) (his : (lkM a M).isSome = false) (hfu : fullB M a = true) : Calls Tryz.prog 25 #[.pointer (some ⟨gb, 0, none⟩), .agg #[.int .i64 a.1, .int .i64 a.2], contV c ca c.t.args.length cap] w fun e w' => e = .returned (.int .i64 41) ∧ Xt w w' := by
  have H := Lib.hid h
  obtain ⟨E, he, w1, hw1, hP1⟩ := put_start h a c ca cap
  have HE := Lib.hid he
  have HP1 := Lib.hid hP1
  have HLM : Hid (E.length = M.length) := Lib.hid ((H.out.xt hP1.xt).len hP1.map he)
  have HIN := Lib.hid hin
  have HSM := Lib.hid hsm
  have HV := Lib.hid (gvalid_any n c ca cap w1 hok (hT.xt hP1.xt) (hin.xt hP1.xt))
  clear h he hP1 hin hsm hok hT
  have HIS : Hid ((lk a E).isSome = false) := by have h0 := HE.out a; rw [h0, Option.isSome_map]; exact his
  obtain ⟨⟨X, xa⟩, hX⟩ : ∃ x, (lkM a M).getD (zeroC, none) = x := ⟨_, rfl⟩
  have HX : Hid ((lk a E).getD (contV zeroC none 0 0) = contV X xa X.t.args.length X.t.args.length) := by rw [HE.out]; revert hX; cases lkM a M <;> (intro hX; cases hX; rfl)
  have HLE : Hid (4096 ≤ M.length) := Lib.hid (by unfold fullB at hfu; rw [his] at hfu; simpa using hfu)
  clear hfu his hX
  have HB := Lib.hid hb
  have HB2 := Lib.hid hb2
  clear hb hb2
  go_enter Tryz.func25, Tryz.ntmps25
  go_wp2_with (first
    | (refine HV.out.mono ?_; rintro e w2 ⟨rfl, hx2⟩; rw [HB.out]; have HP2 := Lib.hid (HP1.out.step hx2); have hc2 := HP2.out.cell; obtain ⟨d0, d1⟩ := HP2.out.ad;  clear hx2)
    | (refine (valid_gr a.1 a.2 w2).mono ?_; rintro e w3 ⟨rfl, hg3⟩; rw [HB2.out]; have HP3 := Lib.hid (HP2.out.step hg3.xt); have hc3 := HP3.out.cell; obtain ⟨p0, p1⟩ := HP3.out.ad; have k3 := HP3.out.kind; clear hg3)
    | (refine BigFrame.wpList_want (by rfl) (fun K hK => wp_load_row 51 _ rfl (w.heap.size + 1) rfl 51 _ (0, 0) _ HP1.out.con Tryz.underlying51 rfl (by kernel_rfl) (hK _ _ ?_)); clear hK K))
  have HL : Hid (∀ w', MapIs w' mb E → (Instr.lookup 100 (.map (some mb)) (.agg #[.int .i64 a.1, .int .i64 a.2]) true).run Tryz.prog w' = .ok (.tuple #[contV X xa X.t.args.length X.t.args.length, .bool false]) w') := fun w' hm => by
    have := hm.lookup_ok (P := Tryz.prog) (t := 100) (k := 24) (e := 51) adrKey Tryz.underlying100 zeroCon a
    rw [HX.out, HIS.out] at this
    exact this
  have hS3 : w3.drew.cell? ⟨gb, 0, none⟩ = some (.map (some mb)) ∧ w3.drew.cell? ⟨w.heap.size, 0, none⟩ = some (.int .i64 a.1) ∧ w3.drew.cell? ⟨w.heap.size, 1, none⟩ = some (.int .i64 a.2) ∧ MapIs w3.drew mb E := ⟨hc3, p0, p1, HP3.out.map⟩
  refine wp_region_held_drew (S := fun w' => w'.cell? ⟨gb, 0, none⟩ = some (.map (some mb)) ∧ w'.cell? ⟨w.heap.size, 0, none⟩ = some (.int .i64 a.1) ∧ w'.cell? ⟨w.heap.size, 1, none⟩ = some (.int .i64 a.2) ∧ MapIs w' mb E) (by kernel_rfl) hS3 (fun hHeld => ?_)
  refine tkH 0 ?_ ?_ ?_
  rotate_left
  · intro w hSw; (try dsimp only at hSw); obtain ⟨s0, s1, s2, s3⟩ := hSw; go_simp; first | done | with_reducible rfl
  try simp only [Act.put, nm]
  refine tkH 1 ?_ ?_ ?_
  rotate_left
  · intro w hSw; (try dsimp only at hSw); obtain ⟨s0, s1, s2, s3⟩ := hSw; go_simp; first | done | with_reducible rfl
  try simp only [Act.put, nm]
  refine tkH 2 ?_ ?_ ?_
  rotate_left
  · intro w hSw; (try dsimp only at hSw); obtain ⟨s0, s1, s2, s3⟩ := hSw; go_simp; first | done | with_reducible rfl
  try simp only [Act.put, nm]
  refine tkH 3 ?_ ?_ ?_
  rotate_left
  · intro w hSw; (try dsimp only at hSw); obtain ⟨s0, s1, s2, s3⟩ := hSw; go_simp; first | done | with_reducible rfl
  try simp only [Act.put, nm]
  refine tkH 4 ?_ ?_ ?_
  rotate_left
  · intro w hSw; (try dsimp only at hSw); obtain ⟨s0, s1, s2, s3⟩ := hSw; go_simp; first | done | with_reducible rfl
  try simp only [Act.put, nm]
  refine tkH 5 ?_ ?_ ?_
  rotate_left
  · intro w hSw; (try dsimp only at hSw); obtain ⟨s0, s1, s2, s3⟩ := hSw; have hl := HL.out _ s3; go_simp; first | done | with_reducible rfl
  try simp only [Act.put, nm]
  refine tkH 6 ?_ ?_ ?_
  rotate_left
  · intro w hSw; (try dsimp only at hSw); go_simp; first | done | with_reducible rfl
  try simp only [Act.put, nm]
  refine tkH 7 ?_ ?_ ?_
  rotate_left
  · intro w hSw; (try dsimp only at hSw); go_simp; first | done | with_reducible rfl
  try simp only [Act.put, nm]
  refine tkH 8 ?_ ?_ ?_
  rotate_left
  · intro w hSw; (try dsimp only at hSw); go_simp; first | done | with_reducible rfl
  try simp only [Act.put, nm]
  refine rdH 9 (fun K hK => ?_)
  go_simp
  obtain ⟨wD, hwD⟩ : ∃ wD, (w3.alloc (.cells #[.int .i64 0, .int .i64 0, .float .f64 0, .string ⟨#[]⟩, .bool false, .int .i64 0, .int .i64 0, .int .i64 0, .float .f64 0, .string ⟨#[]⟩, .bool false, .int .i64 0, .int .i64 0, .int .i64 0, .bool false, .bool false, .int .i64 0, .int .i64 0, .bool false, .bool false, .slice none 0 0] 51)).drew = wD := ⟨_, rfl⟩
  have hxD : Xt w3 wD := by rw [← hwD]; exact ((Xt.refl w3).alloc _).drew
  have hrD : wD.heap[w3.heap.size]? = some (.cells #[.int .i64 0, .int .i64 0, .float .f64 0, .string ⟨#[]⟩, .bool false, .int .i64 0, .int .i64 0, .int .i64 0, .float .f64 0, .string ⟨#[]⟩, .bool false, .int .i64 0, .int .i64 0, .int .i64 0, .bool false, .bool false, .int .i64 0, .int .i64 0, .bool false, .bool false, .slice none 0 0] 51 (0, 0)) := by rw [← hwD]; exact (MapKept.heap_alloc w3 _).1
  have HPD := Lib.hid (HP3.out.step hxD)
  rw [hwD]
  refine hK.out _ _ ⟨HPD.out.cell, HPD.out.ad.1, HPD.out.ad.2, HPD.out.map⟩ (fun hHeld2 => ?_)
  clear hK K
  try simp only [Act.put, nm]
  refine rdH 10 (fun K hK => ?_)
  rw [if_pos (by rfl)]
  obtain ⟨w4, hw4⟩ : ∃ w4, wD.setRow w3.heap.size (contV X xa X.t.args.length X.t.args.length).cells = w4 := ⟨_, rfl⟩
  have hx4 : Xt w3 w4 := by rw [← hw4]; exact hxD.grownB (setRow_grown _ _ _) (fun m hm => by cases hm; exact Nat.le_refl _)
  refine wp_store_row 51 _ _ rfl w3.heap.size (contV X xa X.t.args.length X.t.args.length).cells rfl rfl 51 _ hrD (by kernel_rfl) rfl (by simp [Value.oneCell', Value.cells]) ?_
  rw [hw4]
  have HP4 := Lib.hid (HP3.out.step hx4)
  refine hK.out _ _ ⟨HP4.out.cell, HP4.out.ad.1, HP4.out.ad.2, HP4.out.map⟩ (fun hHeld3 => ?_)
  clear hK K
  try simp only [Act.put, List.getElem_toArray, List.getElem_cons_zero, List.getElem_cons_succ]
  refine tkH 11 ?_ ?_ ?_
  rotate_left
  · intro w hSw; (try dsimp only at hSw); go_simp; first | done | with_reducible rfl
  try simp only [Act.put, nm]
  refine wpAnyH_done (by kernel_rfl) ?_ _
  have hc4 := HP4.out.cell
  have hlen : ∀ ty, (Builtin.len_ #[100] ty #[.map (some mb)]).run Tryz.prog w4 = .ok (.int .i64 M.length) w4 := fun ty => by rw [← HLM.out]; exact HP4.out.map.len Tryz.underlying100
  have hge : (4096 : Int) ≤ (M.length : Int) := by have := HLE.out; omega
  go_wp2_with fail
  go_ret
  exact ⟨rfl, HP4.out.xt⟩
end Go.Proofs.YtdoeejhdenifpaaGreatDoor
namespace Go.Proofs.YtdoeejhdenifpaaGreatDoor
open Go.RowKit Go.Sort

/-! ### Put: a content is set (made by mkput.py) -/
theorem ceV_copy (c : ContT) (x : Option Addr) : ceV (copyC c, x) = copyCV c x := by
  show contV (copyC c) x (copyT c.t).args.length (copyT c.t).args.length = _
  rw [copyT_len]
theorem range_row {w : World} {b : Nat} {cs : List Value} {T : TypeId} {fz : Nat × Nat} (h : w.heap[b]? = some (.cells cs.toArray T fz)) : w.rangeAt b 0 cs := fun j v hv => by
  simp [World.cell?, h, hv]
set_option maxRecDepth 100000 in
set_option maxHeartbeats 4000000 in
theorem gput_old (n : Nat) (gb mb : Nat) (M : GM) (a : Ad) (c : ContT) (ca : Option Addr) (cap : Nat) (w : World) (h : GridIs w gb mb M) (hok : c.ok) (hT : Tabs w) (hsm : smallT c.t) (hin : ArgsIn w n (.slice ca c.t.args.length cap) c.t.args) (hb : gvalidB c = true) (hb2 : validB a.1 a.2 = true) (hk : (c.kind == 0) = false) (his : (lkM a M).isSome = true) : Calls Tryz.prog 25 #[.pointer (some ⟨gb, 0, none⟩), .agg #[.int .i64 a.1, .int .i64 a.2], contV c ca c.t.args.length cap] w fun e w' => ∃ x, e = .returned (.int .i64 0) ∧ GridIs w' gb mb (setM a (copyC c, x) M) ∧ w.grownBy w' (some mb) := by
  have H := Lib.hid h
  obtain ⟨E, he, w1, hw1, hP1⟩ := put_start h a c ca cap
  have HE := Lib.hid he
  have HP1 := Lib.hid hP1
  have HLM : Hid (E.length = M.length) := Lib.hid ((H.out.xt hP1.xt).len hP1.map he)
  have HIN := Lib.hid hin
  have HSM := Lib.hid hsm
  have HV := Lib.hid (gvalid_any n c ca cap w1 hok (hT.xt hP1.xt) (hin.xt hP1.xt))
  clear h he hP1 hin hsm hok hT
  have HIS : Hid ((lk a E).isSome = true) := by have h0 := HE.out a; rw [h0, Option.isSome_map]; exact his
  obtain ⟨⟨X, xa⟩, hX⟩ : ∃ x, (lkM a M).getD (zeroC, none) = x := ⟨_, rfl⟩
  have HX : Hid ((lk a E).getD (contV zeroC none 0 0) = contV X xa X.t.args.length X.t.args.length) := by rw [HE.out]; revert hX; cases lkM a M <;> (intro hX; cases hX; rfl)
  have HLS : Hid (∀ x, (setM a (copyC c, x) M).length ≤ 4096) := Lib.hid (fun x => by rw [len_setM H.out.sorted his]; exact H.out.many)
  clear his hX
  have HB := Lib.hid hb
  have HB2 := Lib.hid hb2
  clear hb hb2
  go_enter Tryz.func25, Tryz.ntmps25
  go_wp2_with (first
    | (refine HV.out.mono ?_; rintro e w2 ⟨rfl, hx2⟩; rw [HB.out]; have HP2 := Lib.hid (HP1.out.step hx2); have hc2 := HP2.out.cell; obtain ⟨d0, d1⟩ := HP2.out.ad;  clear hx2)
    | (refine (valid_gr a.1 a.2 w2).mono ?_; rintro e w3 ⟨rfl, hg3⟩; rw [HB2.out]; have HP3 := Lib.hid (HP2.out.step hg3.xt); have hc3 := HP3.out.cell; obtain ⟨p0, p1⟩ := HP3.out.ad; have k3 := HP3.out.kind; clear hg3)
    | (refine BigFrame.wpList_want (by rfl) (fun K hK => wp_load_row 51 _ rfl (w.heap.size + 1) rfl 51 _ (0, 0) _ HP1.out.con Tryz.underlying51 rfl (by kernel_rfl) (hK _ _ ?_)); clear hK K))
  have HL : Hid (∀ w', MapIs w' mb E → (Instr.lookup 100 (.map (some mb)) (.agg #[.int .i64 a.1, .int .i64 a.2]) true).run Tryz.prog w' = .ok (.tuple #[contV X xa X.t.args.length X.t.args.length, .bool true]) w') := fun w' hm => by
    have := hm.lookup_ok (P := Tryz.prog) (t := 100) (k := 24) (e := 51) adrKey Tryz.underlying100 zeroCon a
    rw [HX.out, HIS.out] at this
    exact this
  have hS3 : w3.drew.cell? ⟨gb, 0, none⟩ = some (.map (some mb)) ∧ w3.drew.cell? ⟨w.heap.size, 0, none⟩ = some (.int .i64 a.1) ∧ w3.drew.cell? ⟨w.heap.size, 1, none⟩ = some (.int .i64 a.2) ∧ MapIs w3.drew mb E := ⟨hc3, p0, p1, HP3.out.map⟩
  refine wp_region_held_drew (S := fun w' => w'.cell? ⟨gb, 0, none⟩ = some (.map (some mb)) ∧ w'.cell? ⟨w.heap.size, 0, none⟩ = some (.int .i64 a.1) ∧ w'.cell? ⟨w.heap.size, 1, none⟩ = some (.int .i64 a.2) ∧ MapIs w' mb E) (by kernel_rfl) hS3 (fun hHeld => ?_)
  refine tkH 0 ?_ ?_ ?_
  rotate_left
  · intro w hSw; (try dsimp only at hSw); obtain ⟨s0, s1, s2, s3⟩ := hSw; go_simp; first | done | with_reducible rfl
  try simp only [Act.put, nm]
  refine tkH 1 ?_ ?_ ?_
  rotate_left
  · intro w hSw; (try dsimp only at hSw); obtain ⟨s0, s1, s2, s3⟩ := hSw; go_simp; first | done | with_reducible rfl
  try simp only [Act.put, nm]
  refine tkH 2 ?_ ?_ ?_
  rotate_left
  · intro w hSw; (try dsimp only at hSw); obtain ⟨s0, s1, s2, s3⟩ := hSw; go_simp; first | done | with_reducible rfl
  try simp only [Act.put, nm]
  refine tkH 3 ?_ ?_ ?_
  rotate_left
  · intro w hSw; (try dsimp only at hSw); obtain ⟨s0, s1, s2, s3⟩ := hSw; go_simp; first | done | with_reducible rfl
  try simp only [Act.put, nm]
  refine tkH 4 ?_ ?_ ?_
  rotate_left
  · intro w hSw; (try dsimp only at hSw); obtain ⟨s0, s1, s2, s3⟩ := hSw; go_simp; first | done | with_reducible rfl
  try simp only [Act.put, nm]
  refine tkH 5 ?_ ?_ ?_
  rotate_left
  · intro w hSw; (try dsimp only at hSw); obtain ⟨s0, s1, s2, s3⟩ := hSw; have hl := HL.out _ s3; go_simp; first | done | with_reducible rfl
  try simp only [Act.put, nm]
  refine tkH 6 ?_ ?_ ?_
  rotate_left
  · intro w hSw; (try dsimp only at hSw); go_simp; first | done | with_reducible rfl
  try simp only [Act.put, nm]
  refine tkH 7 ?_ ?_ ?_
  rotate_left
  · intro w hSw; (try dsimp only at hSw); go_simp; first | done | with_reducible rfl
  try simp only [Act.put, nm]
  refine tkH 8 ?_ ?_ ?_
  rotate_left
  · intro w hSw; (try dsimp only at hSw); go_simp; first | done | with_reducible rfl
  try simp only [Act.put, nm]
  refine rdH 9 (fun K hK => ?_)
  go_simp
  obtain ⟨wD, hwD⟩ : ∃ wD, (w3.alloc (.cells #[.int .i64 0, .int .i64 0, .float .f64 0, .string ⟨#[]⟩, .bool false, .int .i64 0, .int .i64 0, .int .i64 0, .float .f64 0, .string ⟨#[]⟩, .bool false, .int .i64 0, .int .i64 0, .int .i64 0, .bool false, .bool false, .int .i64 0, .int .i64 0, .bool false, .bool false, .slice none 0 0] 51)).drew = wD := ⟨_, rfl⟩
  have hxD : Xt w3 wD := by rw [← hwD]; exact ((Xt.refl w3).alloc _).drew
  have hrD : wD.heap[w3.heap.size]? = some (.cells #[.int .i64 0, .int .i64 0, .float .f64 0, .string ⟨#[]⟩, .bool false, .int .i64 0, .int .i64 0, .int .i64 0, .float .f64 0, .string ⟨#[]⟩, .bool false, .int .i64 0, .int .i64 0, .int .i64 0, .bool false, .bool false, .int .i64 0, .int .i64 0, .bool false, .bool false, .slice none 0 0] 51 (0, 0)) := by rw [← hwD]; exact (MapKept.heap_alloc w3 _).1
  have HPD := Lib.hid (HP3.out.step hxD)
  rw [hwD]
  refine hK.out _ _ ⟨HPD.out.cell, HPD.out.ad.1, HPD.out.ad.2, HPD.out.map⟩ (fun hHeld2 => ?_)
  clear hK K
  try simp only [Act.put, nm]
  refine rdH 10 (fun K hK => ?_)
  rw [if_pos (by rfl)]
  obtain ⟨w4, hw4⟩ : ∃ w4, wD.setRow w3.heap.size (contV X xa X.t.args.length X.t.args.length).cells = w4 := ⟨_, rfl⟩
  have hx4 : Xt w3 w4 := by rw [← hw4]; exact hxD.grownB (setRow_grown _ _ _) (fun m hm => by cases hm; exact Nat.le_refl _)
  refine wp_store_row 51 _ _ rfl w3.heap.size (contV X xa X.t.args.length X.t.args.length).cells rfl rfl 51 _ hrD (by kernel_rfl) rfl (by simp [Value.oneCell', Value.cells]) ?_
  rw [hw4]
  have HP4 := Lib.hid (HP3.out.step hx4)
  refine hK.out _ _ ⟨HP4.out.cell, HP4.out.ad.1, HP4.out.ad.2, HP4.out.map⟩ (fun hHeld3 => ?_)
  clear hK K
  try simp only [Act.put, List.getElem_toArray, List.getElem_cons_zero, List.getElem_cons_succ]
  refine tkH 11 ?_ ?_ ?_
  rotate_left
  · intro w hSw; (try dsimp only at hSw); go_simp; first | done | with_reducible rfl
  try simp only [Act.put, nm]
  refine wpAnyH_done (by kernel_rfl) ?_ _
  have hc4 := HP4.out.cell
  have hlen : ∀ ty, (Builtin.len_ #[100] ty #[.map (some mb)]).run Tryz.prog w4 = .ok (.int .i64 M.length) w4 := fun ty => by rw [← HLM.out]; exact HP4.out.map.len Tryz.underlying100
  go_wp2_with fail
  have hS4 : w4.drew.cell? ⟨gb, 0, none⟩ = some (.map (some mb)) ∧ w4.drew.cell? ⟨w.heap.size, 0, none⟩ = some (.int .i64 a.1) ∧ w4.drew.cell? ⟨w.heap.size, 1, none⟩ = some (.int .i64 a.2) ∧ w4.drew.rangeAt (w.heap.size + 1) 0 [.int .i64 c.kind, .int .i64 c.v.kind, .float .f64 c.v.x, .string c.v.s, .bool c.v.b, .int .i64 c.v.f, .int .i64 c.t.kind, .int .i64 c.t.op, .float .f64 c.t.x, .string c.t.s, .bool c.t.b, .int .i64 c.t.f, .int .i64 c.t.ref.a.1, .int .i64 c.t.ref.a.2, .bool c.t.ref.cf, .bool c.t.ref.rf, .int .i64 c.t.to.a.1, .int .i64 c.t.to.a.2, .bool c.t.to.cf, .bool c.t.to.rf, .slice ca c.t.args.length cap] := ⟨HP4.out.cell, HP4.out.ad.1, HP4.out.ad.2, range_row HP4.out.con⟩
  have HGC := Lib.hid (gcopy_any n c ca cap w4.drew HSM.out (HIN.out.xt HP4.out.xt.drew))
  refine wp_region_held_drew (S := fun w' => w'.cell? ⟨gb, 0, none⟩ = some (.map (some mb)) ∧ w'.cell? ⟨w.heap.size, 0, none⟩ = some (.int .i64 a.1) ∧ w'.cell? ⟨w.heap.size, 1, none⟩ = some (.int .i64 a.2) ∧ w'.rangeAt (w.heap.size + 1) 0 [.int .i64 c.kind, .int .i64 c.v.kind, .float .f64 c.v.x, .string c.v.s, .bool c.v.b, .int .i64 c.v.f, .int .i64 c.t.kind, .int .i64 c.t.op, .float .f64 c.t.x, .string c.t.s, .bool c.t.b, .int .i64 c.t.f, .int .i64 c.t.ref.a.1, .int .i64 c.t.ref.a.2, .bool c.t.ref.cf, .bool c.t.ref.rf, .int .i64 c.t.to.a.1, .int .i64 c.t.to.a.2, .bool c.t.to.cf, .bool c.t.to.rf, .slice ca c.t.args.length cap]) (by kernel_rfl) hS4 (fun hHeld => ?_)
  refine tkH 0 ?_ ?_ ?_
  rotate_left
  · intro w hSw; (try dsimp only at hSw); obtain ⟨s0, s1, s2, s3⟩ := hSw; clear s3; go_simp; first | done | with_reducible rfl
  try simp only [Act.put, nm]
  refine tkH 1 ?_ ?_ ?_
  rotate_left
  · intro w hSw; (try dsimp only at hSw); obtain ⟨s0, s1, s2, s3⟩ := hSw; clear s3; go_simp; first | done | with_reducible rfl
  try simp only [Act.put, nm]
  refine tkH 2 ?_ ?_ ?_
  rotate_left
  · intro w hSw; (try dsimp only at hSw); obtain ⟨s0, s1, s2, s3⟩ := hSw; clear s3; go_simp; first | done | with_reducible rfl
  try simp only [Act.put, nm]
  refine tkH 3 ?_ ?_ ?_
  rotate_left
  · intro w hSw; (try dsimp only at hSw); obtain ⟨s0, s1, s2, s3⟩ := hSw; clear s3; go_simp; first | done | with_reducible rfl
  try simp only [Act.put, nm]
  refine tkH 4 ?_ ?_ ?_
  rotate_left
  · intro w hSw; (try dsimp only at hSw); obtain ⟨s0, s1, s2, s3⟩ := hSw; clear s3; go_simp; first | done | with_reducible rfl
  try simp only [Act.put, nm]
  refine wpAnyH_take (i := 5) (oi := _) (v := .agg #[.int .i64 c.kind, .int .i64 c.v.kind, .float .f64 c.v.x, .string c.v.s, .bool c.v.b, .int .i64 c.v.f, .int .i64 c.t.kind, .int .i64 c.t.op, .float .f64 c.t.x, .string c.t.s, .bool c.t.b, .int .i64 c.t.f, .int .i64 c.t.ref.a.1, .int .i64 c.t.ref.a.2, .bool c.t.ref.cf, .bool c.t.ref.rf, .int .i64 c.t.to.a.1, .int .i64 c.t.to.a.2, .bool c.t.to.cf, .bool c.t.to.rf, .slice ca c.t.args.length cap]) rfl (by kernel_rfl) (by kernel_rfl) (by kernel_rfl) (fun _ _ _ h => h) (yieldsIf_load_mid (by rfl) 51 _ rfl (w.heap.size + 1) 0 rfl [.int .i64 c.kind, .int .i64 c.v.kind, .float .f64 c.v.x, .string c.v.s, .bool c.v.b, .int .i64 c.v.f, .int .i64 c.t.kind, .int .i64 c.t.op, .float .f64 c.t.x, .string c.t.s, .bool c.t.b, .int .i64 c.t.f, .int .i64 c.t.ref.a.1, .int .i64 c.t.ref.a.2, .bool c.t.ref.cf, .bool c.t.ref.rf, .int .i64 c.t.to.a.1, .int .i64 c.t.to.a.2, .bool c.t.to.cf, .bool c.t.to.rf, .slice ca c.t.args.length cap] _ (fun w' hw' => hw'.2.2.2) Tryz.underlying51 rfl (by kernel_rfl)) (by assumption) ?_
  try simp only [Act.put, nm]
  refine rdH 6 (fun K hK => ?_)
  go_simp
  refine HGC.out.mono ?_
  rintro e w5 ⟨a', rfl, hA, hx5⟩
  have HP5 := Lib.hid (HP4.out.step ((Xt.refl w4).drew.trans hx5))
  refine hK.out _ _ ⟨HP5.out.cell, HP5.out.ad.1, HP5.out.ad.2, range_row HP5.out.con⟩ (fun hHeld2 => ?_)
  clear hK K
  try simp only [Act.put, nm]
  obtain ⟨w6, hupd, hm6, hg6, hd6, hs6⟩ := HP5.out.map.update (P := Tryz.prog) (t := 100) (k := 24) (e := 51) adrKey Tryz.underlying100 a (copyCV c a')
  have hupd' : (Instr.mapUpdate 100 (.map (some mb)) (.agg #[.int .i64 a.1, .int .i64 a.2]) (copyCV c a')).run Tryz.prog w5 = .ok () w6 := hupd
  have HC6 : Hid (CellsIn w5 w6) := CellsIn.of_grown HP5.out.map hg6
  have HM6 := Lib.hid hm6
  have HG6 := Lib.hid hg6
  have HA := Lib.hid hA
  clear hm6 hg6 hA hupd
  refine rdH 7 (fun K hK => ?_)
  go_simp
  refine hK.out _ _ ⟨HC6.out _ _ _ HP5.out.cell, HC6.out _ _ _ HP5.out.ad.1, HC6.out _ _ _ HP5.out.ad.2, fun j v hv => HC6.out _ _ _ (range_row HP5.out.con j v hv)⟩ (fun hHeld3 => ?_)
  clear hK K
  try simp only [Act.put, nm]
  refine wpAnyH_done (by kernel_rfl) ?_ _
  go_wp2_with fail
  go_ret
  refine ⟨a', rfl, H.out.put (HP5.out.xt.cellsIn.trans HC6.out) HE.out (x := (copyC c, a')) (by rw [ceV_copy]) HM6.out ⟨smallT_copy _ HSM.out, n, ?_⟩ (HLS.out a'), ?_⟩
  · have h0 := HA.out.args.kept HC6.out
    show ArgsIn w6 n (.slice a' (copyT c.t).args.length (copyT c.t).args.length) (copyT c.t).args
    rw [copyT_len, copyT_args]; exact h0
  · have hx := HP5.out.xt
    exact ⟨HG6.out.os.trans hx.os, HG6.out.tape.trans hx.tape, HG6.out.output.trans hx.output, Nat.le_trans hx.size HG6.out.size, fun k hk hne => (HG6.out.block k (Nat.lt_of_lt_of_le hk hx.size) hne).trans (hx.block k hk)⟩
set_option maxRecDepth 100000 in
set_option maxHeartbeats 4000000 in
theorem gput_new (n : Nat) (gb mb : Nat) (M : GM) (a : Ad) (c : ContT) (ca : Option Addr) (cap : Nat) (w : World) (h : GridIs w gb mb M) (hok : c.ok) (hT : Tabs w) (hsm : smallT c.t) (hin : ArgsIn w n (.slice ca c.t.args.length cap) c.t.args) (hb : gvalidB c = true) (hb2 : validB a.1 a.2 = true) (hk : (c.kind == 0) = false) (his : (lkM a M).isSome = false) (hlt : M.length < 4096) : Calls Tryz.prog 25 #[.pointer (some ⟨gb, 0, none⟩), .agg #[.int .i64 a.1, .int .i64 a.2], contV c ca c.t.args.length cap] w fun e w' => ∃ x, e = .returned (.int .i64 0) ∧ GridIs w' gb mb (setM a (copyC c, x) M) ∧ w.grownBy w' (some mb) := by
  have H := Lib.hid h
  obtain ⟨E, he, w1, hw1, hP1⟩ := put_start h a c ca cap
  have HE := Lib.hid he
  have HP1 := Lib.hid hP1
  have HLM : Hid (E.length = M.length) := Lib.hid ((H.out.xt hP1.xt).len hP1.map he)
  have HIN := Lib.hid hin
  have HSM := Lib.hid hsm
  have HV := Lib.hid (gvalid_any n c ca cap w1 hok (hT.xt hP1.xt) (hin.xt hP1.xt))
  clear h he hP1 hin hsm hok hT
  have HIS : Hid ((lk a E).isSome = false) := by have h0 := HE.out a; rw [h0, Option.isSome_map]; exact his
  obtain ⟨⟨X, xa⟩, hX⟩ : ∃ x, (lkM a M).getD (zeroC, none) = x := ⟨_, rfl⟩
  have HX : Hid ((lk a E).getD (contV zeroC none 0 0) = contV X xa X.t.args.length X.t.args.length) := by rw [HE.out]; revert hX; cases lkM a M <;> (intro hX; cases hX; rfl)
  have HLS : Hid (∀ x, (setM a (copyC c, x) M).length ≤ 4096) := Lib.hid (fun x => Nat.le_trans len_setM_le hlt)
  have HLT := Lib.hid hlt
  clear hlt
  clear his hX
  have HB := Lib.hid hb
  have HB2 := Lib.hid hb2
  clear hb hb2
  go_enter Tryz.func25, Tryz.ntmps25
  go_wp2_with (first
    | (refine HV.out.mono ?_; rintro e w2 ⟨rfl, hx2⟩; rw [HB.out]; have HP2 := Lib.hid (HP1.out.step hx2); have hc2 := HP2.out.cell; obtain ⟨d0, d1⟩ := HP2.out.ad;  clear hx2)
    | (refine (valid_gr a.1 a.2 w2).mono ?_; rintro e w3 ⟨rfl, hg3⟩; rw [HB2.out]; have HP3 := Lib.hid (HP2.out.step hg3.xt); have hc3 := HP3.out.cell; obtain ⟨p0, p1⟩ := HP3.out.ad; have k3 := HP3.out.kind; clear hg3)
    | (refine BigFrame.wpList_want (by rfl) (fun K hK => wp_load_row 51 _ rfl (w.heap.size + 1) rfl 51 _ (0, 0) _ HP1.out.con Tryz.underlying51 rfl (by kernel_rfl) (hK _ _ ?_)); clear hK K))
  have HL : Hid (∀ w', MapIs w' mb E → (Instr.lookup 100 (.map (some mb)) (.agg #[.int .i64 a.1, .int .i64 a.2]) true).run Tryz.prog w' = .ok (.tuple #[contV X xa X.t.args.length X.t.args.length, .bool false]) w') := fun w' hm => by
    have := hm.lookup_ok (P := Tryz.prog) (t := 100) (k := 24) (e := 51) adrKey Tryz.underlying100 zeroCon a
    rw [HX.out, HIS.out] at this
    exact this
  have hS3 : w3.drew.cell? ⟨gb, 0, none⟩ = some (.map (some mb)) ∧ w3.drew.cell? ⟨w.heap.size, 0, none⟩ = some (.int .i64 a.1) ∧ w3.drew.cell? ⟨w.heap.size, 1, none⟩ = some (.int .i64 a.2) ∧ MapIs w3.drew mb E := ⟨hc3, p0, p1, HP3.out.map⟩
  refine wp_region_held_drew (S := fun w' => w'.cell? ⟨gb, 0, none⟩ = some (.map (some mb)) ∧ w'.cell? ⟨w.heap.size, 0, none⟩ = some (.int .i64 a.1) ∧ w'.cell? ⟨w.heap.size, 1, none⟩ = some (.int .i64 a.2) ∧ MapIs w' mb E) (by kernel_rfl) hS3 (fun hHeld => ?_)
  refine tkH 0 ?_ ?_ ?_
  rotate_left
  · intro w hSw; (try dsimp only at hSw); obtain ⟨s0, s1, s2, s3⟩ := hSw; go_simp; first | done | with_reducible rfl
  try simp only [Act.put, nm]
  refine tkH 1 ?_ ?_ ?_
  rotate_left
  · intro w hSw; (try dsimp only at hSw); obtain ⟨s0, s1, s2, s3⟩ := hSw; go_simp; first | done | with_reducible rfl
  try simp only [Act.put, nm]
  refine tkH 2 ?_ ?_ ?_
  rotate_left
  · intro w hSw; (try dsimp only at hSw); obtain ⟨s0, s1, s2, s3⟩ := hSw; go_simp; first | done | with_reducible rfl
  try simp only [Act.put, nm]
  refine tkH 3 ?_ ?_ ?_
  rotate_left
  · intro w hSw; (try dsimp only at hSw); obtain ⟨s0, s1, s2, s3⟩ := hSw; go_simp; first | done | with_reducible rfl
  try simp only [Act.put, nm]
  refine tkH 4 ?_ ?_ ?_
  rotate_left
  · intro w hSw; (try dsimp only at hSw); obtain ⟨s0, s1, s2, s3⟩ := hSw; go_simp; first | done | with_reducible rfl
  try simp only [Act.put, nm]
  refine tkH 5 ?_ ?_ ?_
  rotate_left
  · intro w hSw; (try dsimp only at hSw); obtain ⟨s0, s1, s2, s3⟩ := hSw; have hl := HL.out _ s3; go_simp; first | done | with_reducible rfl
  try simp only [Act.put, nm]
  refine tkH 6 ?_ ?_ ?_
  rotate_left
  · intro w hSw; (try dsimp only at hSw); go_simp; first | done | with_reducible rfl
  try simp only [Act.put, nm]
  refine tkH 7 ?_ ?_ ?_
  rotate_left
  · intro w hSw; (try dsimp only at hSw); go_simp; first | done | with_reducible rfl
  try simp only [Act.put, nm]
  refine tkH 8 ?_ ?_ ?_
  rotate_left
  · intro w hSw; (try dsimp only at hSw); go_simp; first | done | with_reducible rfl
  try simp only [Act.put, nm]
  refine rdH 9 (fun K hK => ?_)
  go_simp
  obtain ⟨wD, hwD⟩ : ∃ wD, (w3.alloc (.cells #[.int .i64 0, .int .i64 0, .float .f64 0, .string ⟨#[]⟩, .bool false, .int .i64 0, .int .i64 0, .int .i64 0, .float .f64 0, .string ⟨#[]⟩, .bool false, .int .i64 0, .int .i64 0, .int .i64 0, .bool false, .bool false, .int .i64 0, .int .i64 0, .bool false, .bool false, .slice none 0 0] 51)).drew = wD := ⟨_, rfl⟩
  have hxD : Xt w3 wD := by rw [← hwD]; exact ((Xt.refl w3).alloc _).drew
  have hrD : wD.heap[w3.heap.size]? = some (.cells #[.int .i64 0, .int .i64 0, .float .f64 0, .string ⟨#[]⟩, .bool false, .int .i64 0, .int .i64 0, .int .i64 0, .float .f64 0, .string ⟨#[]⟩, .bool false, .int .i64 0, .int .i64 0, .int .i64 0, .bool false, .bool false, .int .i64 0, .int .i64 0, .bool false, .bool false, .slice none 0 0] 51 (0, 0)) := by rw [← hwD]; exact (MapKept.heap_alloc w3 _).1
  have HPD := Lib.hid (HP3.out.step hxD)
  rw [hwD]
  refine hK.out _ _ ⟨HPD.out.cell, HPD.out.ad.1, HPD.out.ad.2, HPD.out.map⟩ (fun hHeld2 => ?_)
  clear hK K
  try simp only [Act.put, nm]
  refine rdH 10 (fun K hK => ?_)
  rw [if_pos (by rfl)]
  obtain ⟨w4, hw4⟩ : ∃ w4, wD.setRow w3.heap.size (contV X xa X.t.args.length X.t.args.length).cells = w4 := ⟨_, rfl⟩
  have hx4 : Xt w3 w4 := by rw [← hw4]; exact hxD.grownB (setRow_grown _ _ _) (fun m hm => by cases hm; exact Nat.le_refl _)
  refine wp_store_row 51 _ _ rfl w3.heap.size (contV X xa X.t.args.length X.t.args.length).cells rfl rfl 51 _ hrD (by kernel_rfl) rfl (by simp [Value.oneCell', Value.cells]) ?_
  rw [hw4]
  have HP4 := Lib.hid (HP3.out.step hx4)
  refine hK.out _ _ ⟨HP4.out.cell, HP4.out.ad.1, HP4.out.ad.2, HP4.out.map⟩ (fun hHeld3 => ?_)
  clear hK K
  try simp only [Act.put, List.getElem_toArray, List.getElem_cons_zero, List.getElem_cons_succ]
  refine tkH 11 ?_ ?_ ?_
  rotate_left
  · intro w hSw; (try dsimp only at hSw); go_simp; first | done | with_reducible rfl
  try simp only [Act.put, nm]
  refine wpAnyH_done (by kernel_rfl) ?_ _
  have hc4 := HP4.out.cell
  have hlen : ∀ ty, (Builtin.len_ #[100] ty #[.map (some mb)]).run Tryz.prog w4 = .ok (.int .i64 M.length) w4 := fun ty => by rw [← HLM.out]; exact HP4.out.map.len Tryz.underlying100
  have hge : ¬ (4096 : Int) ≤ (M.length : Int) := by have := HLT.out; omega
  go_wp2_with fail
  have hS4 : w4.drew.cell? ⟨gb, 0, none⟩ = some (.map (some mb)) ∧ w4.drew.cell? ⟨w.heap.size, 0, none⟩ = some (.int .i64 a.1) ∧ w4.drew.cell? ⟨w.heap.size, 1, none⟩ = some (.int .i64 a.2) ∧ w4.drew.rangeAt (w.heap.size + 1) 0 [.int .i64 c.kind, .int .i64 c.v.kind, .float .f64 c.v.x, .string c.v.s, .bool c.v.b, .int .i64 c.v.f, .int .i64 c.t.kind, .int .i64 c.t.op, .float .f64 c.t.x, .string c.t.s, .bool c.t.b, .int .i64 c.t.f, .int .i64 c.t.ref.a.1, .int .i64 c.t.ref.a.2, .bool c.t.ref.cf, .bool c.t.ref.rf, .int .i64 c.t.to.a.1, .int .i64 c.t.to.a.2, .bool c.t.to.cf, .bool c.t.to.rf, .slice ca c.t.args.length cap] := ⟨HP4.out.cell, HP4.out.ad.1, HP4.out.ad.2, range_row HP4.out.con⟩
  have HGC := Lib.hid (gcopy_any n c ca cap w4.drew HSM.out (HIN.out.xt HP4.out.xt.drew))
  refine wp_region_held_drew (S := fun w' => w'.cell? ⟨gb, 0, none⟩ = some (.map (some mb)) ∧ w'.cell? ⟨w.heap.size, 0, none⟩ = some (.int .i64 a.1) ∧ w'.cell? ⟨w.heap.size, 1, none⟩ = some (.int .i64 a.2) ∧ w'.rangeAt (w.heap.size + 1) 0 [.int .i64 c.kind, .int .i64 c.v.kind, .float .f64 c.v.x, .string c.v.s, .bool c.v.b, .int .i64 c.v.f, .int .i64 c.t.kind, .int .i64 c.t.op, .float .f64 c.t.x, .string c.t.s, .bool c.t.b, .int .i64 c.t.f, .int .i64 c.t.ref.a.1, .int .i64 c.t.ref.a.2, .bool c.t.ref.cf, .bool c.t.ref.rf, .int .i64 c.t.to.a.1, .int .i64 c.t.to.a.2, .bool c.t.to.cf, .bool c.t.to.rf, .slice ca c.t.args.length cap]) (by kernel_rfl) hS4 (fun hHeld => ?_)
  refine tkH 0 ?_ ?_ ?_
  rotate_left
  · intro w hSw; (try dsimp only at hSw); obtain ⟨s0, s1, s2, s3⟩ := hSw; clear s3; go_simp; first | done | with_reducible rfl
  try simp only [Act.put, nm]
  refine tkH 1 ?_ ?_ ?_
  rotate_left
  · intro w hSw; (try dsimp only at hSw); obtain ⟨s0, s1, s2, s3⟩ := hSw; clear s3; go_simp; first | done | with_reducible rfl
  try simp only [Act.put, nm]
  refine tkH 2 ?_ ?_ ?_
  rotate_left
  · intro w hSw; (try dsimp only at hSw); obtain ⟨s0, s1, s2, s3⟩ := hSw; clear s3; go_simp; first | done | with_reducible rfl
  try simp only [Act.put, nm]
  refine tkH 3 ?_ ?_ ?_
  rotate_left
  · intro w hSw; (try dsimp only at hSw); obtain ⟨s0, s1, s2, s3⟩ := hSw; clear s3; go_simp; first | done | with_reducible rfl
  try simp only [Act.put, nm]
  refine tkH 4 ?_ ?_ ?_
  rotate_left
  · intro w hSw; (try dsimp only at hSw); obtain ⟨s0, s1, s2, s3⟩ := hSw; clear s3; go_simp; first | done | with_reducible rfl
  try simp only [Act.put, nm]
  refine wpAnyH_take (i := 5) (oi := _) (v := .agg #[.int .i64 c.kind, .int .i64 c.v.kind, .float .f64 c.v.x, .string c.v.s, .bool c.v.b, .int .i64 c.v.f, .int .i64 c.t.kind, .int .i64 c.t.op, .float .f64 c.t.x, .string c.t.s, .bool c.t.b, .int .i64 c.t.f, .int .i64 c.t.ref.a.1, .int .i64 c.t.ref.a.2, .bool c.t.ref.cf, .bool c.t.ref.rf, .int .i64 c.t.to.a.1, .int .i64 c.t.to.a.2, .bool c.t.to.cf, .bool c.t.to.rf, .slice ca c.t.args.length cap]) rfl (by kernel_rfl) (by kernel_rfl) (by kernel_rfl) (fun _ _ _ h => h) (yieldsIf_load_mid (by rfl) 51 _ rfl (w.heap.size + 1) 0 rfl [.int .i64 c.kind, .int .i64 c.v.kind, .float .f64 c.v.x, .string c.v.s, .bool c.v.b, .int .i64 c.v.f, .int .i64 c.t.kind, .int .i64 c.t.op, .float .f64 c.t.x, .string c.t.s, .bool c.t.b, .int .i64 c.t.f, .int .i64 c.t.ref.a.1, .int .i64 c.t.ref.a.2, .bool c.t.ref.cf, .bool c.t.ref.rf, .int .i64 c.t.to.a.1, .int .i64 c.t.to.a.2, .bool c.t.to.cf, .bool c.t.to.rf, .slice ca c.t.args.length cap] _ (fun w' hw' => hw'.2.2.2) Tryz.underlying51 rfl (by kernel_rfl)) (by assumption) ?_
  try simp only [Act.put, nm]
  refine rdH 6 (fun K hK => ?_)
  go_simp
  refine HGC.out.mono ?_
  rintro e w5 ⟨a', rfl, hA, hx5⟩
  have HP5 := Lib.hid (HP4.out.step ((Xt.refl w4).drew.trans hx5))
  refine hK.out _ _ ⟨HP5.out.cell, HP5.out.ad.1, HP5.out.ad.2, range_row HP5.out.con⟩ (fun hHeld2 => ?_)
  clear hK K
  try simp only [Act.put, nm]
  obtain ⟨w6, hupd, hm6, hg6, hd6, hs6⟩ := HP5.out.map.update (P := Tryz.prog) (t := 100) (k := 24) (e := 51) adrKey Tryz.underlying100 a (copyCV c a')
  have hupd' : (Instr.mapUpdate 100 (.map (some mb)) (.agg #[.int .i64 a.1, .int .i64 a.2]) (copyCV c a')).run Tryz.prog w5 = .ok () w6 := hupd
  have HC6 : Hid (CellsIn w5 w6) := CellsIn.of_grown HP5.out.map hg6
  have HM6 := Lib.hid hm6
  have HG6 := Lib.hid hg6
  have HA := Lib.hid hA
  clear hm6 hg6 hA hupd
  refine rdH 7 (fun K hK => ?_)
  go_simp
  refine hK.out _ _ ⟨HC6.out _ _ _ HP5.out.cell, HC6.out _ _ _ HP5.out.ad.1, HC6.out _ _ _ HP5.out.ad.2, fun j v hv => HC6.out _ _ _ (range_row HP5.out.con j v hv)⟩ (fun hHeld3 => ?_)
  clear hK K
  try simp only [Act.put, nm]
  refine wpAnyH_done (by kernel_rfl) ?_ _
  go_wp2_with fail
  go_ret
  refine ⟨a', rfl, H.out.put (HP5.out.xt.cellsIn.trans HC6.out) HE.out (x := (copyC c, a')) (by rw [ceV_copy]) HM6.out ⟨smallT_copy _ HSM.out, n, ?_⟩ (HLS.out a'), ?_⟩
  · have h0 := HA.out.args.kept HC6.out
    show ArgsIn w6 n (.slice a' (copyT c.t).args.length (copyT c.t).args.length) (copyT c.t).args
    rw [copyT_len, copyT_args]; exact h0
  · have hx := HP5.out.xt
    exact ⟨HG6.out.os.trans hx.os, HG6.out.tape.trans hx.tape, HG6.out.output.trans hx.output, Nat.le_trans hx.size HG6.out.size, fun k hk hne => (HG6.out.block k (Nat.lt_of_lt_of_le hk hx.size) hne).trans (hx.block k hk)⟩
theorem gput_any (n : Nat) (gb mb : Nat) (M : GM) (a : Ad) (c : ContT) (ca : Option Addr) (cap : Nat) (w : World) (h : GridIs w gb mb M) (hok : c.ok) (hT : Tabs w) (hsm : smallT c.t) (hin : ArgsIn w n (.slice ca c.t.args.length cap) c.t.args) : Calls Tryz.prog 25 #[.pointer (some ⟨gb, 0, none⟩), .agg #[.int .i64 a.1, .int .i64 a.2], contV c ca c.t.args.length cap] w (PutR w gb mb M a c) := by
  by_cases hb : gvalidB c = true
  · by_cases hb2 : validB a.1 a.2 = true
    · by_cases hk : (c.kind == 0) = true
      · refine (gput_del n gb mb M a c ca cap w h hok hT hsm hin hb hb2 hk).mono ?_
        rintro e w' ⟨rfl, q1, q2⟩
        exact ⟨none, by simp [putCode, hb, hb2, hk], by simpa [putTo, hb, hb2, hk] using q1, q2⟩
      · have hk := Bool.eq_false_iff.2 hk
        by_cases his : (lkM a M).isSome = true
        · refine (gput_old n gb mb M a c ca cap w h hok hT hsm hin hb hb2 hk his).mono ?_
          rintro e w' ⟨x, rfl, q1, q2⟩
          exact ⟨x, by simp [putCode, hb, hb2, hk, fullB, his], by simpa [putTo, hb, hb2, hk, fullB, his] using q1, q2⟩
        · have his := Bool.eq_false_iff.2 his
          by_cases hlt : M.length < 4096
          · refine (gput_new n gb mb M a c ca cap w h hok hT hsm hin hb hb2 hk his hlt).mono ?_
            rintro e w' ⟨x, rfl, q1, q2⟩
            have h4 : ¬ 4096 ≤ M.length := by omega
            exact ⟨x, by simp [putCode, hb, hb2, hk, fullB, his, h4], by simpa [putTo, hb, hb2, hk, fullB, his, h4] using q1, q2⟩
          · have h4 : 4096 ≤ M.length := by omega
            refine (gput_full n gb mb M a c ca cap w h hok hT hsm hin hb hb2 hk his (by simp [fullB, his, h4])).mono ?_
            rintro e w' ⟨rfl, q1⟩
            exact ⟨none, by simp [putCode, hb, hb2, hk, fullB, his, h4], by simpa [putTo, hb, hb2, hk, fullB, his, h4] using h.xt q1, ⟨q1.os, q1.tape, q1.output, q1.size, fun k hk _ => q1.block k hk⟩⟩
    · have hb2 := Bool.eq_false_iff.2 hb2
      refine (gput_ad n gb mb M a c ca cap w h hok hT hsm hin hb hb2).mono ?_
      rintro e w' ⟨rfl, q1⟩
      exact ⟨none, by simp [putCode, hb, hb2], by simpa [putTo, hb, hb2] using h.xt q1, ⟨q1.os, q1.tape, q1.output, q1.size, fun k hk _ => q1.block k hk⟩⟩
  · have hb := Bool.eq_false_iff.2 hb
    refine (gput_inv n gb mb M a c ca cap w h hok hT hsm hin hb).mono ?_
    rintro e w' ⟨rfl, q1⟩
    exact ⟨none, by simp [putCode, hb], by simpa [putTo, hb] using h.xt q1, ⟨q1.os, q1.tape, q1.output, q1.size, fun k hk _ => q1.block k hk⟩⟩
end Go.Proofs.YtdoeejhdenifpaaGreatDoor
namespace Go.Proofs.YtdoeejhdenifpaaGreatDoor
open Go.RowKit Go.Sort

/-! ### how many cells a grid has -/
section
variable {α : Type}
theorem delM_none {a : Ad} {M : List (Ad × α)} (h : lkM a M = none) : delM a M = M := List.filter_eq_self.2 fun x hx => by have := lkM_none.1 h x hx; simp [this]
theorem delM_len {a : Ad} : ∀ {M : List (Ad × α)}, SortedM M → (lkM a M).isSome = true → (delM a M).length + 1 = M.length
  | [], _, h => by simp [lkM] at h
  | x :: r, hs, h => by
    obtain ⟨h1, h2⟩ := List.pairwise_cons.1 hs
    unfold delM
    rw [List.filter_cons]
    by_cases hx : x.1 = a
    · simp only [hx, decide_true, Bool.not_true, Bool.false_eq_true, if_false, List.length_cons]
      have : r.filter (fun x => !decide (x.1 = a)) = r := List.filter_eq_self.2 fun y hy => by
        have hne : y.1 ≠ a := fun e => by have := h1 y hy; rw [hx, e, adLt_irrefl] at this; cases this
        simp [hne]
      rw [this]
    · simp only [hx, decide_false, Bool.not_false, if_true, List.length_cons]
      have h' : (lkM a r).isSome = true := by unfold lkM at h; rwa [if_neg hx] at h
      have := delM_len h2 h'
      unfold delM at this
      omega
theorem len_setM_new {a : Ad} {l : α} : ∀ {M : List (Ad × α)}, lkM a M = none → (setM a l M).length = M.length + 1
  | [], _ => by simp [setM]
  | x :: r, h => by
    unfold lkM at h
    by_cases hx : x.1 = a
    · simp [hx] at h
    · rw [if_neg hx] at h
      unfold setM
      rw [if_neg hx]
      split
      · simp
      · simp [len_setM_new h]
end
/-- The first n cells, row by row. -/
structure Full (wd n : Nat) (M : GM) : Prop where
  sorted : SortedM M
  len : M.length = n
  keys : ∀ x ∈ M, 1 ≤ x.1.1 ∧ x.1.1 ≤ wd ∧ 1 ≤ x.1.2 ∧ (x.1.2 - 1).toNat * wd + (x.1.1 - 1).toNat < n
  one : 0 < n → (lkM (1, 1) M).isSome = true
theorem Full.no {wd n : Nat} {M : GM} (h : Full wd n M) {a : Ad} (ha : n ≤ (a.2 - 1).toNat * wd + (a.1 - 1).toNat) : lkM a M = none := lkM_none.2 fun x hx e => by
  have := (h.keys x hx).2.2.2
  rw [e] at this; omega
theorem Full.put {wd n : Nat} {M : GM} (h : Full wd n M) {r c : Nat} (hc : c < wd) (hn : n = r * wd + c) (x : CE) : Full wd (n + 1) (setM ((c : Int) + 1, (r : Int) + 1) x M) := by
  have hno : lkM ((c : Int) + 1, (r : Int) + 1) M = none := h.no (by
    rw [show ((r : Int) + 1 - 1).toNat = r by omega, show ((c : Int) + 1 - 1).toNat = c by omega]; omega)
  refine ⟨sorted_setM _ _ h.sorted, by rw [len_setM_new hno, h.len], fun y hy => ?_, fun _ => ?_⟩
  · rcases mem_setM hy with rfl | hy
    · refine ⟨by show (1 : Int) ≤ (c : Int) + 1; omega, by show (c : Int) + 1 ≤ (wd : Int); omega, by show (1 : Int) ≤ (r : Int) + 1; omega, ?_⟩
      show ((r : Int) + 1 - 1).toNat * wd + ((c : Int) + 1 - 1).toNat < n + 1
      rw [show ((r : Int) + 1 - 1).toNat = r by omega, show ((c : Int) + 1 - 1).toNat = c by omega]; omega
    · have := h.keys y hy; omega
  · rw [lkM_set]
    by_cases hn0 : 0 < n
    · split
      · rfl
      · exact h.one hn0
    · have hz : r * wd = 0 ∧ c = 0 := by omega
      have hr : r = 0 := by
        rcases Nat.mul_eq_zero.1 hz.1 with h | h
        · exact h
        · omega
      rw [hr, hz.2]
      simp
theorem Full.last {wd : Nat} {M : GM} (h : Full wd 4096 M) (hw : 1 ≤ wd) : (wd = 1 → lkM (2, 1) M = none) ∧ (wd ≠ 1 → lkM (256, 4096) M = none) := by
  refine ⟨fun e => lkM_none.2 fun x hx q => ?_, fun e => h.no ?_⟩
  · have := (h.keys x hx).2.1; rw [q] at this; simp at this; omega
  · show 4096 ≤ 4095 * wd + 255; omega
end Go.Proofs.YtdoeejhdenifpaaGreatDoor
/- Plain grids. -/
namespace Go.Proofs.YtdoeejhdenifpaaGreatDoor
open Go.RowKit Go.Sort

/-! ### plain grids -/
abbrev PG := List (Ad × ContT)
def er (M : GM) : PG := M.map fun x => (x.1, x.2.1)
theorem er_lk (a : Ad) : ∀ M : GM, lkM a (er M) = (lkM a M).map (·.1)
  | [] => rfl
  | x :: r => by
    have ih := er_lk a r
    unfold er at ih ⊢
    rw [List.map_cons, lkM, lkM]
    by_cases h : x.1 = a
    · simp [h]
    · simp only [h, if_false]; exact ih
theorem er_set (a : Ad) (c : ContT) (p : Option Addr) : ∀ M : GM, er (setM a (c, p) M) = setM a c (er M)
  | [] => rfl
  | x :: r => by
    have ih := er_set a c p r
    unfold er at ih ⊢
    rw [List.map_cons, setM, setM]
    by_cases h : x.1 = a
    · simp [h]
    · simp only [h, if_false]
      by_cases h2 : adLt a x.1 = true
      · simp [h2]
      · simp only [h2, Bool.false_eq_true, if_false, List.map_cons, ih]
theorem er_del (a : Ad) (M : GM) : er (delM a M) = delM a (er M) := by
  unfold er delM
  rw [List.filter_map]
  rfl
theorem er_sorted {M : GM} : SortedM (er M) ↔ SortedM M := by unfold SortedM er; rw [List.pairwise_map]
theorem er_len (M : GM) : (er M).length = M.length := by simp [er]
theorem er_keys (M : GM) : (er M).map (·.1) = M.map (·.1) := by simp [er]
def fullP (P : PG) (a : Ad) : Bool := !(lkM a P).isSome && decide (4096 ≤ P.length)
def codeP (P : PG) (a : Ad) (c : ContT) : Int := if gvalidB c = false then 1 else if validB a.1 a.2 = false then 20 else if (c.kind == 0) = true then 0 else if fullP P a = true then 41 else 0
def putP (P : PG) (a : Ad) (c : ContT) : PG := if gvalidB c = false then P else if validB a.1 a.2 = false then P else if (c.kind == 0) = true then delM a P else if fullP P a = true then P else setM a (copyC c) P
theorem er_full (M : GM) (a : Ad) : fullB M a = fullP (er M) a := by unfold fullB fullP; rw [er_lk, er_len]; simp
theorem er_code (M : GM) (a : Ad) (c : ContT) : putCode M a c = codeP (er M) a c := by unfold putCode codeP; rw [er_full]
theorem er_put (M : GM) (a : Ad) (c : ContT) (x : Option Addr) : er (putTo M a c x) = putP (er M) a c := by
  unfold putTo putP
  rw [er_full]
  split
  · rfl
  split
  · rfl
  split
  · exact er_del a M
  split
  · rfl
  · exact er_set a (copyC c) x M
structure GOk (P : PG) : Prop where
  sorted : SortedM P
  many : P.length ≤ 4096
  each : ∀ x ∈ P, validB x.1.1 x.1.2 = true ∧ gvalidB x.2 = true ∧ (x.2.kind == 0) = false ∧ copyC x.2 = x.2 ∧ x.2.ok
theorem GOk.nil : GOk [] := ⟨List.Pairwise.nil, by simp, fun x hx => by cases hx⟩
theorem GOk.del {P : PG} (h : GOk P) (a : Ad) : GOk (delM a P) := ⟨sorted_delM a h.sorted, Nat.le_trans (List.length_filter_le ..) h.many, fun x hx => h.each x (List.mem_filter.1 hx).1⟩
theorem GOk.set {P : PG} (h : GOk P) {a : Ad} {c : ContT} (hf : fullP P a = false) (hv : validB a.1 a.2 = true) (hg : gvalidB c = true) (hk : (c.kind == 0) = false) (hok : c.ok) : GOk (setM a (copyC c) P) := by
  refine ⟨sorted_setM a _ h.sorted, ?_, fun x hx => ?_⟩
  · unfold fullP at hf
    cases hl : lkM a P with
    | none =>
      rw [len_setM_new hl]
      rw [hl] at hf
      simp only [Option.isSome_none, Bool.not_false, Bool.true_and, decide_eq_false_iff_not] at hf
      omega
    | some y =>
      rw [len_setM h.sorted (by rw [hl]; rfl)]
      exact h.many
  · rcases mem_setM hx with rfl | hx
    · exact ⟨hv, (gvalidB_copy c).trans hg, hk, copyC_idem c, okC_copy hok⟩
    · exact h.each x hx
theorem GOk.put {P : PG} (h : GOk P) (a : Ad) {c : ContT} (hok : c.ok) : GOk (putP P a c) := by
  unfold putP
  cases h1 : gvalidB c
  · exact h
  cases h2 : validB a.1 a.2
  · exact h
  cases h3 : (c.kind == 0)
  · simp only [Bool.true_eq_false, Bool.false_eq_true, if_false]
    cases h4 : fullP P a
    · exact h.set h4 h2 h1 h3 hok
    · exact h
  · exact h.del a
/-! ### equal -/
/-! ### put again in any order -/
theorem setM_perm {α : Type} {a : Ad} {v : α} : ∀ {M : List (Ad × α)}, lkM a M = none → (setM a v M).Perm ((a, v) :: M)
  | [], _ => List.Perm.refl _
  | x :: r, h => by
    unfold lkM at h
    by_cases hx : x.1 = a
    · simp [hx] at h
    · simp only [hx, if_false] at h
      unfold setM
      simp only [hx, if_false]
      by_cases h2 : adLt a x.1 = true
      · simp only [h2, if_true]; exact List.Perm.refl _
      · simp only [h2, Bool.false_eq_true, if_false]
        exact ((setM_perm h).cons x).trans (List.Perm.swap _ _ _)
theorem sortedM_perm {α : Type} {M N : List (Ad × α)} (hM : SortedM M) (hN : SortedM N) (hp : M.Perm N) : M = N := by
  refine List.Perm.eq_of_pairwise (le := fun x y => adLt x.1 y.1 = true) ?_ ?_ ?_ hp
  · intro x y _ _ h1 h2
    have := swo_ad.trans _ _ _ h1 h2
    rw [adLt_irrefl] at this; cases this
  · exact hM
  · exact hN
theorem snoc_ind {α : Type} {P : List α → Prop} (h0 : P []) (h1 : ∀ l x, P l → P (l ++ [x])) (l : List α) : P l := by
  rw [← List.reverse_reverse l]
  induction l.reverse with
  | nil => exact h0
  | cons x r ih => rw [List.reverse_cons]; exact h1 _ _ ih
def allP (P : PG) (l : List (Ad × ContT)) : PG := l.foldl (fun P x => putP P x.1 x.2) P
theorem allP_snoc (P : PG) (l : List (Ad × ContT)) (x : Ad × ContT) : allP P (l ++ [x]) = putP (allP P l) x.1 x.2 := by simp [allP]
theorem allP_ok {P : PG} (h : GOk P) : ∀ {l : List (Ad × ContT)}, (∀ x ∈ l, x.2.ok) → GOk (allP P l) := by
  intro l
  induction l generalizing P with
  | nil => exact fun _ => h
  | cons x r ih => exact fun hl => ih (h.put x.1 (hl x List.mem_cons_self)) fun y hy => hl y (List.mem_cons_of_mem _ hy)
theorem put_new {P : PG} {x : Ad × ContT} (hl : lkM x.1 P = none) (hlen : P.length < 4096) (hx : validB x.1.1 x.1.2 = true ∧ gvalidB x.2 = true ∧ (x.2.kind == 0) = false ∧ copyC x.2 = x.2 ∧ x.2.ok) :
    codeP P x.1 x.2 = 0 ∧ putP P x.1 x.2 = setM x.1 x.2 P := by
  obtain ⟨h1, h2, h3, h4, _⟩ := hx
  have hf : fullP P x.1 = false := by unfold fullP; rw [hl]; simp; omega
  unfold codeP putP
  rw [h1, h2, h3, hf, h4]
  exact ⟨rfl, rfl⟩
theorem nodup_keys {P : PG} (h : SortedM P) : (P.map (·.1)).Nodup := nodup_M h
theorem again_perm {A : PG} (h : GOk A) : ∀ {l : List (Ad × ContT)}, (∀ x ∈ l, x ∈ A) → (l.map (·.1)).Nodup → l.length ≤ 4096 → SortedM (allP [] l) ∧ (allP [] l).Perm l := by
  intro l
  refine snoc_ind (P := fun l => (∀ x ∈ l, x ∈ A) → (l.map (·.1)).Nodup → l.length ≤ 4096 → SortedM (allP [] l) ∧ (allP [] l).Perm l) ?_ ?_ l
  · exact fun _ _ _ => ⟨List.Pairwise.nil, List.Perm.refl _⟩
  · intro l x ih hm hn hl
    rw [List.map_append, List.nodup_append] at hn
    obtain ⟨h1, h2⟩ := ih (fun y hy => hm y (List.mem_append_left _ hy)) hn.1 (by simp at hl; omega)
    have hno : lkM x.1 (allP [] l) = none := lkM_none.2 fun y hy e => hn.2.2 y.1 (List.mem_map.2 ⟨y, h2.mem_iff.1 hy, rfl⟩) x.1 (by simp) e
    have hlen : (allP [] l).length < 4096 := by have := h2.length_eq; simp at hl; omega
    obtain ⟨_, hp⟩ := put_new hno hlen (h.each x (hm x (by simp)))
    rw [allP_snoc, hp]
    exact ⟨sorted_setM _ _ h1, (setM_perm hno).trans ((h2.cons x).trans (List.perm_append_singleton x l).symm)⟩
end Go.Proofs.YtdoeejhdenifpaaGreatDoor
/- formula.Copy's rounds, with the rows that its lists lie in (made by mk52.py). -/
namespace Go.Proofs.YtdoeejhdenifpaaGreatDoor
open Go.RowKit Go.Sort

/-- A whole row of nodes. -/
def NodeRow (w : World) (b : Nat) : Prop := ∃ (cur : Array Value) (cap : Nat), w.heap[b]? = some (.cells cur 49 (0, 0)) ∧ cur.size = cap * 15
theorem NodeRow.of_heap {w w' : World} {b : Nat} (h : NodeRow w b) (e : w'.heap[b]? = w.heap[b]?) : NodeRow w' b := let ⟨cur, cap, h1, h2⟩ := h; ⟨cur, cap, e.trans h1, h2⟩
/-- The rows that a round has laid. -/
structure CopyRowsR (wr : World) (S : Nat) (n : Nat) (ob : Option Nat) (l : List NodeT) (R : List (NodeT × Value)) : Prop where
  fst : R.map Prod.fst = copyL l
  args : ∀ (k : Nat) (r : NodeT × Value), R[k]? = some r → ∃ n', n = n' + 1 ∧ ArgsS (fun b => (S ≤ b ∧ ob ≠ some b) ∧ NodeRow wr b) wr n' r.2 r.1.args
/-- Copy's state: B its box, B + 1 the cell of its result. -/
structure CopyStR (w : World) (n : Nat) (t2 : NodeT) (l : List NodeT) (wr : World) (i : Nat) (va : Option Addr) (vn vc : Nat) : Prop where
  box : NodeAt wr w.heap.size 0 t2 va vn vc
  f14 : wr.frozen? ⟨w.heap.size, 14, none⟩ = false
  res : ∃ cs, wr.heap[w.heap.size + 1]? = some (.cells cs 49 (0, 0)) ∧ cs.size = 15
  ob : ∀ g, (Value.slice va vn vc).ownBlock = some g → w.heap.size + 2 ≤ g
  rows : ∃ R, wr.ownsRow 0 49 15 (.slice va vn vc) i (R.flatMap rowC) ∧ CopyRowsR wr (w.heap.size + 2) n (Value.slice va vn vc).ownBlock (l.take i) R
  xt : Xt w wr
/-- Where the loop begins. -/
theorem copy_startR {w w0 : World} {t : NodeT} {a : Option Addr} {m cap : Nat} (n ox : Nat) (l : List NodeT) (hc : NodeAt w0 w.heap.size 0 t a m cap) (hs : w0.heap.size = w.heap.size + 1) (hf : w0.frozen? ⟨w.heap.size, 14, none⟩ = false) (hg : Gr w w0) :
    CopyStR w n (.mk t.kind t.op ox t.s t.b t.f t.ref t.to t.args) l (((w0.setCell ⟨w.heap.size, 2, none⟩ (.float .f64 ox)).setCell ⟨w.heap.size, 14, none⟩ (.slice none 0 0)).alloc (.cells #[.int .i64 0, .int .i64 0, .float .f64 0, .string ⟨#[]⟩, .bool false, .int .i64 0, .int .i64 0, .int .i64 0, .bool false, .bool false, .int .i64 0, .int .i64 0, .bool false, .bool false, .slice none 0 0] 49)) 0 none 0 0 := by
  obtain ⟨w1, hw1⟩ : ∃ w1, w0.setCell ⟨w.heap.size, 2, none⟩ (.float .f64 ox) = w1 := ⟨_, rfl⟩
  rw [hw1]
  obtain ⟨w2, hw2⟩ : ∃ w2, w1.setCell ⟨w.heap.size, 14, none⟩ (.slice none 0 0) = w2 := ⟨_, rfl⟩
  rw [hw2]
  have s1 : w1.heap.size = w.heap.size + 1 := by rw [← hw1]; simpa using hs
  have s2 : w2.heap.size = w.heap.size + 1 := by rw [← hw2]; simpa using s1
  have k1 : ∀ o v, o ≠ 2 → w0.cell? ⟨w.heap.size, o, none⟩ = some v → w1.cell? ⟨w.heap.size, o, none⟩ = some v := fun o v ho h => by
    rw [← hw1]; exact (World.cell?_setCell_other w0 _ _ _ (by intro e; cases e; exact ho rfl)).trans h
  have k2 : ∀ o v, o ≠ 14 → w1.cell? ⟨w.heap.size, o, none⟩ = some v → w2.cell? ⟨w.heap.size, o, none⟩ = some v := fun o v ho h => by
    rw [← hw2]; exact (World.cell?_setCell_other w1 _ _ _ (by intro e; cases e; exact ho rfl)).trans h
  have k3 : ∀ o v (ob : Obj), w2.cell? ⟨w.heap.size, o, none⟩ = some v → (w2.alloc ob).cell? ⟨w.heap.size, o, none⟩ = some v := fun o v ob h =>
    (World.cell?_of_block (w := w2) (a := ⟨w.heap.size, o, none⟩) (Below.heap_alloc w2 ob _ (by show w.heap.size < _; omega))).trans h
  have x1 : Xt w w1 := by rw [← hw1]; exact hg.xt.grownB (setCell_grown _ _ _ _) (fun m hm => by cases hm; exact Nat.le_refl _)
  have x2 : Xt w w2 := by rw [← hw2]; exact x1.grownB (setCell_grown _ _ _ _) (fun m hm => by cases hm; exact Nat.le_refl _)
  refine ⟨⟨?_, ?_, ?_, ?_, ?_, ?_, ?_, ?_, ?_, ?_, ?_, ?_, ?_, ?_, ?_⟩, ?_, ?_, fun g hg => (by cases hg), ⟨[], ?_, ?_, fun k r hk => (by simp at hk)⟩, x2.alloc _⟩
  · exact k3 _ _ _ (k2 _ _ (by omega) (k1 _ _ (by omega) hc.c0))
  · exact k3 _ _ _ (k2 _ _ (by omega) (k1 _ _ (by omega) hc.c1))
  · refine k3 _ _ _ (k2 _ _ (by omega) ?_)
    rw [← hw1, Nat.zero_add]; exact World.cell?_setCell_same' w0 _ _ (by have := hc.c2; rw [Nat.zero_add] at this; rw [this]; rfl)
  · exact k3 _ _ _ (k2 _ _ (by omega) (k1 _ _ (by omega) hc.c3))
  · exact k3 _ _ _ (k2 _ _ (by omega) (k1 _ _ (by omega) hc.c4))
  · exact k3 _ _ _ (k2 _ _ (by omega) (k1 _ _ (by omega) hc.c5))
  · exact k3 _ _ _ (k2 _ _ (by omega) (k1 _ _ (by omega) hc.c6))
  · exact k3 _ _ _ (k2 _ _ (by omega) (k1 _ _ (by omega) hc.c7))
  · exact k3 _ _ _ (k2 _ _ (by omega) (k1 _ _ (by omega) hc.c8))
  · exact k3 _ _ _ (k2 _ _ (by omega) (k1 _ _ (by omega) hc.c9))
  · exact k3 _ _ _ (k2 _ _ (by omega) (k1 _ _ (by omega) hc.c10))
  · exact k3 _ _ _ (k2 _ _ (by omega) (k1 _ _ (by omega) hc.c11))
  · exact k3 _ _ _ (k2 _ _ (by omega) (k1 _ _ (by omega) hc.c12))
  · exact k3 _ _ _ (k2 _ _ (by omega) (k1 _ _ (by omega) hc.c13))
  · refine k3 _ _ _ ?_
    have h14 := k1 _ _ (by omega) hc.c14
    rw [Nat.zero_add] at h14
    rw [← hw2, Nat.zero_add]; exact World.cell?_setCell_same' w1 _ _ (by rw [h14]; rfl)
  · have q1 : w1.frozen? ⟨w.heap.size, 14, none⟩ = false := by rw [← hw1]; simp [hf]
    have q2 : w2.frozen? ⟨w.heap.size, 14, none⟩ = false := by rw [← hw2]; simp [q1]
    exact (World.frozen?_of_block (w := w2) (a := ⟨w.heap.size, 14, none⟩) (Below.heap_alloc w2 _ _ (by show w.heap.size < _; omega))).trans q2
  · rw [← s2]; exact ⟨_, (MapKept.heap_alloc w2 _).1, rfl⟩
  · exact World.ownsRow_nil _ _ _ _
  · rfl
/-- The child's box is pushed. -/
theorem copy_pushR {w wr w6 : World} {n n' i : Nat} {t2 x : NodeT} {l : List NodeT} {va a' : Option Addr} {vn vc : Nat} (hn : n = n' + 1) (h : CopyStR w n t2 l wr i va vn vc) (hx : l[i]? = some x) (hl : l.length ≤ 1099511627744) (h6 : Xt wr w6)
    (hA : ArgsS (fun b => wr.heap.size ≤ b ∧ NodeRow w6 b) w6 n' (.slice a' x.args.length x.args.length) (copyL x.args)) (wA : World) (hwA : w6.alloc (.cells #[.int .i64 x.kind, .int .i64 x.op, .float .f64 (oneX x.x), .string x.s, .bool x.b, .int .i64 x.f, .int .i64 x.ref.a.1, .int .i64 x.ref.a.2, .bool x.ref.cf, .bool x.ref.rf, .int .i64 x.to.a.1, .int .i64 x.to.a.2, .bool x.to.cf, .bool x.to.rf, .slice a' x.args.length x.args.length] 49) = wA) :
    ∃ va' vn' vc' w7, (Builtin.append_ #[47, 47] 47 #[.slice va vn vc, .slice (some ⟨w6.heap.size, 0, none⟩) 1 1]).run Tryz.prog wA = .ok (.slice va' vn' vc') w7 ∧ Xt w w6 ∧ Xt w wA ∧ Xt w w7 ∧ Xt w (w7.setCell ⟨w.heap.size, 14, none⟩ (.slice va' vn' vc')) ∧ (w6.cell? ⟨w.heap.size, 14, none⟩ = some (.slice va vn vc) ∧ wA.cell? ⟨w.heap.size, 14, none⟩ = some (.slice va vn vc) ∧ w7.cell? ⟨w.heap.size, 14, none⟩ = some (.slice va vn vc)) ∧ w7.frozen? ⟨w.heap.size, 14, none⟩ = false ∧ (∀ b o, wr.heap.size ≤ b → b < wA.heap.size → w7.cell? ⟨b, o, none⟩ = wA.cell? ⟨b, o, none⟩ ∧ (w7.setCell ⟨w.heap.size, 14, none⟩ (.slice va' vn' vc')).cell? ⟨b, o, none⟩ = wA.cell? ⟨b, o, none⟩) ∧
      CopyStR w n t2 l (w7.setCell ⟨w.heap.size, 14, none⟩ (.slice va' vn' vc')) (i + 1) va' vn' vc' := by
  obtain ⟨i0, hi, hz0, hz1, hz2⟩ := info_parts infoNode
  obtain ⟨hbox, hf14, ⟨cs, hres, hcs⟩, hob, ⟨R, hown, hRf, hRa⟩, hxt⟩ := h
  have hil : i < l.length := (List.getElem?_eq_some_iff.1 hx).1
  have hBr : w.heap.size < wr.heap.size := World.block_lt_of_cell? wr _ hbox.c0
  have hB1 : w.heap.size + 1 < wr.heap.size := (Array.getElem?_eq_some_iff.1 hres).1
  have h6s := h6.sz
  have hxtA : Xt wr wA := by rw [← hwA]; exact h6.alloc _
  have hAs : wA.heap.size = w6.heap.size + 1 := by rw [← hwA]; simp
  have hRl : R.length = i := by
    have := congrArg List.length hRf
    rw [copyL_map] at this
    simp at this; omega
  have hownA : wA.ownsRow 0 49 15 (.slice va vn vc) i (R.flatMap rowC) :=
    World.ownsRow.kept hown (row := none) ⟨hxtA.os, hxtA.tape, hxtA.output, hxtA.size, fun k hk _ => hxtA.block k hk⟩ (by
      cases (Value.slice va vn vc).ownBlock with
      | none => exact Or.inl rfl
      | some q => exact Or.inr (by simp))
  have hnews : ∀ (j : Nat) (u : Value), (nodeC (copyT x) (.slice a' x.args.length x.args.length))[j]? = some u → wA.cell? ((⟨w6.heap.size, 0, none⟩ : Addr).add j) = some u := by
    rw [← hwA]
    have := news_at w6 (nodeC (copyT x) (.slice a' x.args.length x.args.length)) 49 (b := w6.heap.size) rfl
    cases x
    exact this
  obtain ⟨v', w7, hpush, hown7, hg7, hwh⟩ := run_append_where (P := Tryz.prog) wA 47 47 49 i0 _ 15 128 Tryz.underlying47 hi hz0 hz1 hz2 rfl (by decide) (.slice va vn vc) i (R.flatMap rowC) hownA ⟨w6.heap.size, 0, none⟩ 1 1 (nodeC (copyT x) (.slice a' x.args.length x.args.length)) rfl hnews (nodeC_one _ _ rfl) (by unfold maxLen; omega) (by omega)
  obtain ⟨va', vc', rfl, hvc1, hvc2⟩ := ownsRow_base hown7
  have hobl : ∀ g, (Value.slice va vn vc).ownBlock = some g → g < wr.heap.size := fun g hg => (World.ownsRow.lt hown g hg).2
  have hob' : ∀ g, (Value.slice va' (i + 1) vc').ownBlock = some g → w.heap.size + 2 ≤ g ∧ g < w7.heap.size := by
    intro g hg
    have hlt := (World.ownsRow.lt hown7 g hg).2
    rcases hwh with e | e
    · rw [e] at hg; exact ⟨hob g hg, hlt⟩
    · have := e g hg; exact ⟨by omega, hlt⟩
  have hx7 : Xt w w7 := (hxt.trans hxtA).grownB hg7 (fun m hm => by have := hob m hm; omega)
  have hn0 : (Value.slice va vn vc).ownBlock ≠ some w.heap.size := fun e => by have := hob _ e; omega
  have hn1 : (Value.slice va vn vc).ownBlock ≠ some (w.heap.size + 1) := fun e => by have := hob _ e; omega
  have k7 : ∀ b o, b < wr.heap.size → (Value.slice va vn vc).ownBlock ≠ some b → w7.cell? ⟨b, o, none⟩ = wr.cell? ⟨b, o, none⟩ := fun b o hb hne =>
    (World.cell?_of_block (w := wA) (a := ⟨b, o, none⟩) (hg7.block b (by omega) (fun e => hne e.symm))).trans ((hxtA.cells).1 b o hb)
  have hc14 := (k7 w.heap.size 14 hBr hn0).trans hbox.c14
  have hcell : ∀ o v, o ≠ 14 → wr.cell? ⟨w.heap.size, o, none⟩ = some v → (w7.setCell ⟨w.heap.size, 14, none⟩ (.slice va' (i + 1) vc')).cell? ⟨w.heap.size, o, none⟩ = some v := fun o v ho hv =>
    (World.cell?_setCell_other w7 _ _ _ (by intro e; cases e; exact ho rfl)).trans ((k7 _ o hBr hn0).trans hv)
  have hf7 : w7.frozen? ⟨w.heap.size, 14, none⟩ = false :=
    (World.frozen?_of_block (w := wr) (a := ⟨w.heap.size, 14, none⟩) ((hg7.block _ (by omega) (fun e => hn0 e.symm)).trans (hxtA.block _ hBr))).trans hf14
  have k8 : ∀ b, b < wr.heap.size → b ≠ w.heap.size → (Value.slice va vn vc).ownBlock ≠ some b → (w7.setCell ⟨w.heap.size, 14, none⟩ (.slice va' (i + 1) vc')).heap[b]? = wr.heap[b]? := fun b hb hne hob =>
    (Below.heap_setCell _ _ _ _ hne).trans ((hg7.block b (by omega) (fun e => hob e.symm)).trans (hxtA.block b hb))
  refine ⟨va', i + 1, vc', w7, hpush, hxt.trans h6, hxt.trans hxtA, hx7, hx7.grownB (setCell_grown _ _ _ _) (fun m hm => by cases hm; exact Nat.le_refl _), ⟨((h6.cells).1 _ _ hBr).trans hbox.c14, ((hxtA.cells).1 _ _ hBr).trans hbox.c14, hc14⟩, hf7, fun b o hb hl => ?_, ?_⟩
  · have e7 : w7.cell? ⟨b, o, none⟩ = wA.cell? ⟨b, o, none⟩ := World.cell?_of_block (w := wA) (a := ⟨b, o, none⟩) (hg7.block b hl (fun e => by have := hobl b e.symm; omega))
    exact ⟨e7, (World.cell?_setCell_far _ _ _ _ (by show w.heap.size ≠ b; omega)).trans e7⟩
  refine ⟨⟨?_, ?_, ?_, ?_, ?_, ?_, ?_, ?_, ?_, ?_, ?_, ?_, ?_, ?_, ?_⟩, ?_, ?_, fun g hg => (hob' g hg).1, ?_, hx7.grownB (setCell_grown _ _ _ _) (fun m hm => by cases hm; exact Nat.le_refl _)⟩
  · exact hcell _ _ (by omega) hbox.c0
  · exact hcell _ _ (by omega) hbox.c1
  · exact hcell _ _ (by omega) hbox.c2
  · exact hcell _ _ (by omega) hbox.c3
  · exact hcell _ _ (by omega) hbox.c4
  · exact hcell _ _ (by omega) hbox.c5
  · exact hcell _ _ (by omega) hbox.c6
  · exact hcell _ _ (by omega) hbox.c7
  · exact hcell _ _ (by omega) hbox.c8
  · exact hcell _ _ (by omega) hbox.c9
  · exact hcell _ _ (by omega) hbox.c10
  · exact hcell _ _ (by omega) hbox.c11
  · exact hcell _ _ (by omega) hbox.c12
  · exact hcell _ _ (by omega) hbox.c13
  · rw [Nat.zero_add]; exact World.cell?_setCell_same' w7 _ _ (by rw [hc14]; rfl)
  · simp [hf7]
  · exact ⟨cs, (k8 _ hB1 (by omega) hn1).trans hres, hcs⟩
  · have e7 : (R ++ [(copyT x, Value.slice a' x.args.length x.args.length)]).flatMap rowC = R.flatMap rowC ++ nodeC (copyT x) (.slice a' x.args.length x.args.length) := by simp [rowC]
    refine ⟨R ++ [(copyT x, .slice a' x.args.length x.args.length)], ?_, ?_, ?_⟩
    · rw [e7]
      exact ownsRow_setCell_other hown7 (a := ⟨w.heap.size, 14, none⟩) (fun e => by have := (hob' _ e).1; simp at this; omega) _
    · rw [List.map_append, hRf, copyL_map, copyL_map, List.take_add_one, hx]; simp
    · intro k r hk
      have hk7 : ∀ b o, b < wr.heap.size → b ≠ w.heap.size → (Value.slice va vn vc).ownBlock ≠ some b → (w7.setCell ⟨w.heap.size, 14, none⟩ (.slice va' (i + 1) vc')).cell? ⟨b, o, none⟩ = wr.cell? ⟨b, o, none⟩ := fun b o hb hne hob =>
        World.cell?_of_block (w := wr) (a := ⟨b, o, none⟩) (k8 b hb hne hob)
      have hobn : ∀ b, b < w6.heap.size → (Value.slice va vn vc).ownBlock ≠ some b → (Value.slice va' (i + 1) vc').ownBlock ≠ some b := by
        intro b hb hne e
        rcases hwh with e' | e'
        · rw [e'] at e; exact hne e
        · have := e' b e; omega
      by_cases hkl : k < R.length
      · rw [List.getElem?_append_left hkl] at hk
        obtain ⟨n1, hn1', hAk⟩ := hRa k r hk
        exact ⟨n1, hn1', hAk.keep (fun b hb hlt => ⟨⟨hb.1.1, hobn b (by omega) hb.1.2⟩, hb.2.of_heap (k8 b hlt (by omega) hb.1.2)⟩) (fun b o hb hlt => hk7 b o hlt (by omega) hb.1.2)⟩
      · rw [List.getElem?_append_right (by omega)] at hk
        have hk0 : k - R.length = 0 := by
          rcases Nat.eq_zero_or_pos (k - R.length) with e | e
          · exact e
          · rw [List.getElem?_eq_none (by simp; omega)] at hk; cases hk
        rw [hk0] at hk
        simp only [List.getElem?_cons_zero, Option.some.injEq] at hk
        subst hk
        refine ⟨n', hn, ?_⟩
        have hk6h : ∀ b, wr.heap.size ≤ b → b < w6.heap.size → (w7.setCell ⟨w.heap.size, 14, none⟩ (.slice va' (i + 1) vc')).heap[b]? = w6.heap[b]? := by
          intro b hb hlt
          refine (Below.heap_setCell _ _ _ _ (by show b ≠ w.heap.size; omega)).trans ((hg7.block b (by omega) (fun e => by have := hobl b e.symm; omega)).trans ?_)
          rw [← hwA]
          exact Below.heap_alloc w6 _ b hlt
        have hA2 : ArgsS (fun b => wr.heap.size ≤ b ∧ NodeRow w6 b) w6 n' (.slice a' x.args.length x.args.length) (copyT x).args := by cases x; exact hA
        exact hA2.keep (fun b hb hlt => ⟨⟨by have := hb.1; omega, hobn b hlt (fun e => by have := hobl b e; have := hb.1; omega)⟩, hb.2.of_heap (hk6h b hb.1 hlt)⟩) (fun b o hb hlt => World.cell?_of_block (w := w6) (a := ⟨b, o, none⟩) (hk6h b hb.1 hlt))
/-- All are pushed. -/
theorem copy_endR {w wr w' : World} {n : Nat} {t2 : NodeT} {l : List NodeT} {va : Option Addr} {vn vc : Nat} (h : CopyStR w n t2 l wr l.length va vn vc) (hk : ∀ b, w.heap.size + 2 ≤ b → b < wr.heap.size → w'.heap[b]? = wr.heap[b]?) :
    vn = l.length ∧ l.length ≤ vc ∧ vc ≤ 9223372036854775807 ∧ ArgsS (fun b => w.heap.size ≤ b ∧ NodeRow w' b) w' n (.slice va l.length l.length) (copyL l) := by
  obtain ⟨_, _, _, hob, ⟨R, hown, hRf, hRa⟩, _⟩ := h
  obtain ⟨a2, c2, e, h1, h2⟩ := ownsRow_base hown
  cases e
  refine ⟨rfl, h1, h2, ?_⟩
  rw [List.take_length] at hRf
  have hRl : R.length = l.length := by have := congrArg List.length hRf; rw [copyL_map] at this; simpa using this
  have hcl : (copyL l).length = l.length := by rw [copyL_map]; simp
  cases n with
  | zero =>
    cases R with
    | nil =>
      have : l = [] := List.eq_nil_of_length_eq_zero (by rw [← hRl]; rfl)
      subst this
      exact ⟨rfl, _, _, rfl, by simp⟩
    | cons r R => obtain ⟨n', hn, _⟩ := hRa 0 r rfl; cases hn
  | succ n =>
    refine ⟨va, l.length, by rw [hcl], by rw [hcl]; exact Nat.le_refl _, by omega, fun hne => ?_⟩
    have hlne : l ≠ [] := fun e => hne (by subst e; rfl)
    rcases hown.2 with ⟨_, h0⟩ | ⟨g, cap, cur, e, _, hgc, _, _, hgs, _⟩
    · exact absurd (List.length_eq_zero_iff.1 h0) hlne
    · cases e
      have hg2 := hob g rfl
      have hgl := (World.ownsRow.lt hown g rfl).2
      refine ⟨g, 0, rfl, ⟨by omega, ⟨cur, vc, (hk g hg2 hgl).trans hgc, hgs⟩⟩, fun k t ht => ?_⟩
      rw [← hRf, List.getElem?_map] at ht
      obtain ⟨r, hr, rfl⟩ := Option.map_eq_some_iff.1 ht
      obtain ⟨n', hn', hA⟩ := hRa k r hr
      cases hn'
      refine ⟨r.2, fun i u hu => ?_, hA.keep (fun b hb hlt => ⟨by have := hb.1.1; omega, hb.2.of_heap (hk b hb.1.1 hlt)⟩) (fun b o hb hlt => World.cell?_of_block (w := wr) (a := ⟨b, o, none⟩) (hk b hb.1.1 hlt))⟩
      have hi : i < 15 := (List.getElem?_eq_some_iff.1 hu).1
      have hf := rflat_at rowC 15 rowC_len R k i r hr hi
      have := World.ownsRow.cells hown (g := g) rfl (k * 15 + i) u (hf.trans hu)
      rw [Nat.zero_add, World.cell?_of_block (w := wr) (a := ⟨g, k * 15 + i, none⟩) (hk g hg2 hgl)]
      rw [← this, Addr.add_lit, Nat.zero_add]
end Go.Proofs.YtdoeejhdenifpaaGreatDoor
/- A list of copies that grows in a node's args: what is known of it round by round; lists of one's own. -/
namespace Go.Proofs.YtdoeejhdenifpaaGreatDoor
open Go.RowKit Go.Sort

/-- A slice of nodes in whole rows of nodes, from the row's first place on, all its blocks with a property, so deep. -/
def OwnIn (S : Nat → Prop) (w : World) : Nat → Value → List NodeT → Prop
  | 0, av, l => l = [] ∧ ∃ a, av = .slice a 0 0
  | n + 1, av, l => ∃ a cap, av = .slice a l.length cap ∧ l.length ≤ cap ∧ cap ≤ 9223372036854775807 ∧ (0 < cap → ∃ b cur K, a = some ⟨b, 0, none⟩ ∧ S b ∧ w.heap[b]? = some (.cells cur 49 (0, 0)) ∧ cur.size = K * 15 ∧ cap ≤ K ∧
      ∀ k t, l[k]? = some t → ∃ av', (∀ i u, (nodeC t av')[i]? = some u → w.cell? ⟨b, k * 15 + i, none⟩ = some u) ∧ OwnIn S w n av' t.args)
theorem OwnIn.args {S : Nat → Prop} {w : World} : ∀ {n : Nat} {av : Value} {l : List NodeT}, OwnIn S w n av l → ArgsIn w n av l
  | 0, _, _, h => by obtain ⟨rfl, a, rfl⟩ := h; exact ⟨rfl, a, 0, rfl, by omega⟩
  | n + 1, _, _, h => by
    obtain ⟨a, cap, rfl, h1, h2, h3⟩ := h
    refine ⟨a, cap, rfl, h1, h2, fun hne => ?_⟩
    have hpos := List.length_pos_iff.2 hne
    obtain ⟨b, cur, K, rfl, _, _, _, _, hc⟩ := h3 (by omega)
    exact ⟨b, 0, rfl, fun k t ht => let ⟨av', q1, q2⟩ := hc k t ht; ⟨av', by simpa only [Nat.zero_add] using q1, q2.args⟩⟩
theorem OwnIn.keep {S S' : Nat → Prop} {w w' : World} (hS : ∀ b, S b → b < w.heap.size → S' b) (hk : ∀ b, S b → b < w.heap.size → w'.heap[b]? = w.heap[b]?) : ∀ {n : Nat} {av : Value} {l : List NodeT}, OwnIn S w n av l → OwnIn S' w' n av l
  | 0, _, _, h => h
  | n + 1, _, _, h => by
    obtain ⟨a, cap, rfl, h1, h2, h3⟩ := h
    refine ⟨a, cap, rfl, h1, h2, fun hpos => ?_⟩
    obtain ⟨b, cur, K, rfl, hb, hr, hK, hcK, hc⟩ := h3 hpos
    have hlt : b < w.heap.size := (Array.getElem?_eq_some_iff.1 hr).1
    exact ⟨b, cur, K, rfl, hS b hb hlt, (hk b hb hlt).trans hr, hK, hcK, fun k t ht => let ⟨av', q1, q2⟩ := hc k t ht; ⟨av', fun i u hu => (World.cell?_of_block (w := w) (a := ⟨b, k * 15 + i, none⟩) (hk b hb hlt)).trans (q1 i u hu), OwnIn.keep hS hk q2⟩⟩
theorem OwnIn.shape {S : Nat → Prop} {w : World} {n : Nat} {av : Value} {l : List NodeT} (h : OwnIn S w n av l) : ∃ a cap, av = .slice a l.length cap ∧ l.length ≤ cap ∧ cap ≤ 9223372036854775807 := h.args.shape
/-- The rows that a round has laid. -/
structure GRows (wr : World) (M : Nat) (g : NodeT → NodeT) (n : Nat) (ob : Option Nat) (l : List NodeT) (R : List (NodeT × Value)) : Prop where
  fst : R.map Prod.fst = l.map g
  args : ∀ (k : Nat) (r : NodeT × Value), R[k]? = some r → ∃ n', n = n' + 1 ∧ OwnIn (fun b => M ≤ b ∧ ob ≠ some b) wr n' r.2 r.1.args
/-- O the block of the node whose args grow; what they lie in begins at M. -/
structure GSt (w ws : World) (O M : Nat) (g : NodeT → NodeT) (n : Nat) (t2 : NodeT) (l : List NodeT) (wr : World) (i : Nat) (va : Option Addr) (vn vc : Nat) : Prop where
  lo : w.heap.size ≤ O ∧ O < M ∧ M = ws.heap.size ∧ M ≤ wr.heap.size
  box : NodeAt wr O 0 t2 va vn vc
  f14 : wr.frozen? ⟨O, 14, none⟩ = false
  none : i = 0 → vc = 0
  ob : ∀ q, (Value.slice va vn vc).ownBlock = some q → M ≤ q
  rows : ∃ R, wr.ownsRow 0 49 15 (.slice va vn vc) i (R.flatMap rowC) ∧ GRows wr M g n (Value.slice va vn vc).ownBlock (l.take i) R
  keep : ∀ b, b < M → b ≠ O → wr.heap[b]? = ws.heap[b]?
  xt : Xt w wr
theorem grow_start {w ws : World} {O : Nat} (g : NodeT → NodeT) (n : Nat) {t2 : NodeT} (l : List NodeT) (h1 : w.heap.size ≤ O) (h2 : O < ws.heap.size) (hb : NodeAt ws O 0 t2 none 0 0) (hf : ws.frozen? ⟨O, 14, none⟩ = false) (hx : Xt w ws) :
    GSt w ws O ws.heap.size g n t2 l ws 0 none 0 0 :=
  ⟨⟨h1, h2, rfl, Nat.le_refl _⟩, hb, hf, fun _ => rfl, fun q hq => (by cases hq), ⟨[], World.ownsRow_nil _ _ _ _, rfl, fun k r hk => (by simp at hk)⟩, fun _ _ _ => rfl, hx⟩
theorem GSt.lenR {R : List (NodeT × Value)} {g : NodeT → NodeT} {l : List NodeT} {i : Nat} (h : R.map Prod.fst = (l.take i).map g) (hi : i ≤ l.length) : R.length = i := by
  have := congrArg List.length h
  simp at this; omega
/-- The child's box is pushed. -/
theorem grow_push {w ws wr w6 : World} {O M n n' i : Nat} {g : NodeT → NodeT} {t2 x : NodeT} {l : List NodeT} {va a' : Option Addr} {vn vc c' : Nat} (hn : n = n' + 1) (h : GSt w ws O M g n t2 l wr i va vn vc) (hx : l[i]? = some x) (hl : l.length ≤ 1099511627744) (h6 : Xt wr w6)
    (hA : OwnIn (fun b => wr.heap.size ≤ b) w6 n' (.slice a' (g x).args.length c') (g x).args) (wA : World)
    (hwA : w6.alloc (.cells #[.int .i64 (g x).kind, .int .i64 (g x).op, .float .f64 (g x).x, .string (g x).s, .bool (g x).b, .int .i64 (g x).f, .int .i64 (g x).ref.a.1, .int .i64 (g x).ref.a.2, .bool (g x).ref.cf, .bool (g x).ref.rf, .int .i64 (g x).to.a.1, .int .i64 (g x).to.a.2, .bool (g x).to.cf, .bool (g x).to.rf, .slice a' (g x).args.length c'] 49) = wA) :
    ∃ va' vn' vc' w7, (Builtin.append_ #[47, 47] 47 #[.slice va vn vc, .slice (some ⟨w6.heap.size, 0, none⟩) 1 1]).run Tryz.prog wA = .ok (.slice va' vn' vc') w7 ∧ (w6.cell? ⟨O, 14, none⟩ = some (.slice va vn vc) ∧ wA.cell? ⟨O, 14, none⟩ = some (.slice va vn vc) ∧ w7.cell? ⟨O, 14, none⟩ = some (.slice va vn vc)) ∧ w7.frozen? ⟨O, 14, none⟩ = false ∧
      (∀ b, b < wr.heap.size → (b < M ∧ b ≠ O ∨ b < w.heap.size) → w6.heap[b]? = wr.heap[b]? ∧ wA.heap[b]? = wr.heap[b]? ∧ w7.heap[b]? = wr.heap[b]? ∧ (w7.setCell ⟨O, 14, none⟩ (.slice va' vn' vc')).heap[b]? = wr.heap[b]?) ∧
      (∀ b, wr.heap.size ≤ b → b < wA.heap.size → w7.heap[b]? = wA.heap[b]? ∧ (w7.setCell ⟨O, 14, none⟩ (.slice va' vn' vc')).heap[b]? = wA.heap[b]?) ∧
      GSt w ws O M g n t2 l (w7.setCell ⟨O, 14, none⟩ (.slice va' vn' vc')) (i + 1) va' vn' vc' := by
  obtain ⟨i0, hi, hz0, hz1, hz2⟩ := info_parts infoNode
  obtain ⟨⟨hO1, hO2, hM, hMr⟩, hbox, hf14, hnone, hob, ⟨R, hown, hRf, hRa⟩, hkeep, hxt⟩ := h
  have hil : i < l.length := (List.getElem?_eq_some_iff.1 hx).1
  have hBr : O < wr.heap.size := by omega
  have h6s := h6.sz
  have hxtA : Xt wr wA := by rw [← hwA]; exact h6.alloc _
  have hAs : wA.heap.size = w6.heap.size + 1 := by rw [← hwA]; simp
  have hRl : R.length = i := GSt.lenR hRf (by omega)
  have hownA : wA.ownsRow 0 49 15 (.slice va vn vc) i (R.flatMap rowC) :=
    World.ownsRow.kept hown (row := none) ⟨hxtA.os, hxtA.tape, hxtA.output, hxtA.size, fun k hk _ => hxtA.block k hk⟩ (by
      cases (Value.slice va vn vc).ownBlock with
      | none => exact Or.inl rfl
      | some q => exact Or.inr (by simp))
  have hnews : ∀ (j : Nat) (u : Value), (nodeC (g x) (.slice a' (g x).args.length c'))[j]? = some u → wA.cell? ((⟨w6.heap.size, 0, none⟩ : Addr).add j) = some u := by
    rw [← hwA]
    exact news_at w6 (nodeC (g x) (.slice a' (g x).args.length c')) 49 (b := w6.heap.size) rfl
  obtain ⟨v', w7, hpush, hown7, hg7, hwh⟩ := run_append_where (P := Tryz.prog) wA 47 47 49 i0 _ 15 128 Tryz.underlying47 hi hz0 hz1 hz2 rfl (by decide) (.slice va vn vc) i (R.flatMap rowC) hownA ⟨w6.heap.size, 0, none⟩ 1 1 (nodeC (g x) (.slice a' (g x).args.length c')) rfl hnews (nodeC_one _ _ rfl) (by unfold maxLen; omega) (by omega)
  obtain ⟨va', vc', rfl, hvc1, hvc2⟩ := ownsRow_base hown7
  have hobl : ∀ q, (Value.slice va vn vc).ownBlock = some q → q < wr.heap.size := fun q hq => (World.ownsRow.lt hown q hq).2
  have hob' : ∀ q, (Value.slice va' (i + 1) vc').ownBlock = some q → M ≤ q ∧ q < w7.heap.size := by
    intro q hq
    have hlt := (World.ownsRow.lt hown7 q hq).2
    rcases hwh with e | e
    · rw [e] at hq; exact ⟨hob q hq, hlt⟩
    · have := e q hq; exact ⟨by omega, hlt⟩
  have hx7 : Xt w w7 := (hxt.trans hxtA).grownB hg7 (fun m hm => by have := hob m hm; omega)
  have hn0 : (Value.slice va vn vc).ownBlock ≠ some O := fun e => by have := hob _ e; omega
  have k7h : ∀ b, b < wr.heap.size → (Value.slice va vn vc).ownBlock ≠ some b → w7.heap[b]? = wr.heap[b]? := fun b hb hne =>
    (hg7.block b (by omega) (fun e => hne e.symm)).trans (hxtA.block b hb)
  have k7 : ∀ b o, b < wr.heap.size → (Value.slice va vn vc).ownBlock ≠ some b → w7.cell? ⟨b, o, none⟩ = wr.cell? ⟨b, o, none⟩ := fun b o hb hne =>
    World.cell?_of_block (w := wr) (a := ⟨b, o, none⟩) (k7h b hb hne)
  have hc14 := (k7 O 14 hBr hn0).trans hbox.c14
  have hcell : ∀ o v, o ≠ 14 → wr.cell? ⟨O, o, none⟩ = some v → (w7.setCell ⟨O, 14, none⟩ (.slice va' (i + 1) vc')).cell? ⟨O, o, none⟩ = some v := fun o v ho hv =>
    (World.cell?_setCell_other w7 _ _ _ (by intro e; cases e; exact ho rfl)).trans ((k7 _ o hBr hn0).trans hv)
  have hf7 : w7.frozen? ⟨O, 14, none⟩ = false :=
    (World.frozen?_of_block (w := wr) (a := ⟨O, 14, none⟩) (k7h _ hBr hn0)).trans hf14
  have k8 : ∀ b, b < wr.heap.size → b ≠ O → (Value.slice va vn vc).ownBlock ≠ some b → (w7.setCell ⟨O, 14, none⟩ (.slice va' (i + 1) vc')).heap[b]? = wr.heap[b]? := fun b hb hne hob =>
    (Below.heap_setCell _ _ _ _ hne).trans (k7h b hb hob)
  have hsz7 : M ≤ w7.heap.size := by have := hg7.size; omega
  refine ⟨va', i + 1, vc', w7, hpush, ⟨((h6.cells).1 _ _ hBr).trans hbox.c14, ((hxtA.cells).1 _ _ hBr).trans hbox.c14, hc14⟩, hf7, fun b hb hor => ?_, fun b hb hl => ?_, ⟨⟨hO1, hO2, hM, by simpa using hsz7⟩, ?_, ?_, fun e => by omega, fun q hq => (hob' q hq).1, ?_, fun b hb hne => (k8 b (by omega) hne (fun e => by have := hob b e; omega)).trans (hkeep b hb hne), hx7.grownB (setCell_grown _ _ _ _) (fun m hm => by cases hm; exact hO1)⟩⟩
  · have hbM : b < M := by rcases hor with h | h <;> omega
    have hbO : b ≠ O := by rcases hor with h | h <;> omega
    exact ⟨h6.block b hb, hxtA.block b hb, k7h b hb (fun e => by have := hob b e; omega), k8 b hb hbO (fun e => by have := hob b e; omega)⟩
  · have e7 : w7.heap[b]? = wA.heap[b]? := hg7.block b hl (fun e => by have := hobl b e.symm; omega)
    exact ⟨e7, (Below.heap_setCell _ _ _ _ (by show b ≠ O; omega)).trans e7⟩
  · refine ⟨?_, ?_, ?_, ?_, ?_, ?_, ?_, ?_, ?_, ?_, ?_, ?_, ?_, ?_, ?_⟩
    · exact hcell _ _ (by omega) hbox.c0
    · exact hcell _ _ (by omega) hbox.c1
    · exact hcell _ _ (by omega) hbox.c2
    · exact hcell _ _ (by omega) hbox.c3
    · exact hcell _ _ (by omega) hbox.c4
    · exact hcell _ _ (by omega) hbox.c5
    · exact hcell _ _ (by omega) hbox.c6
    · exact hcell _ _ (by omega) hbox.c7
    · exact hcell _ _ (by omega) hbox.c8
    · exact hcell _ _ (by omega) hbox.c9
    · exact hcell _ _ (by omega) hbox.c10
    · exact hcell _ _ (by omega) hbox.c11
    · exact hcell _ _ (by omega) hbox.c12
    · exact hcell _ _ (by omega) hbox.c13
    · rw [Nat.zero_add]; exact World.cell?_setCell_same' w7 _ _ (by rw [hc14]; rfl)
  · simp [hf7]
  · have e7 : (R ++ [(g x, Value.slice a' (g x).args.length c')]).flatMap rowC = R.flatMap rowC ++ nodeC (g x) (.slice a' (g x).args.length c') := by simp [rowC]
    refine ⟨R ++ [(g x, .slice a' (g x).args.length c')], ?_, ?_, ?_⟩
    · rw [e7]
      exact ownsRow_setCell_other hown7 (a := ⟨O, 14, none⟩) (fun e => by have := (hob' _ e).1; simp at this; omega) _
    · rw [List.map_append, hRf, List.take_add_one, hx]; simp
    · intro k r hk
      have hobn : ∀ b, b < w6.heap.size → (Value.slice va vn vc).ownBlock ≠ some b → (Value.slice va' (i + 1) vc').ownBlock ≠ some b := by
        intro b hb hne e
        rcases hwh with e' | e'
        · rw [e'] at e; exact hne e
        · have := e' b e; omega
      by_cases hkl : k < R.length
      · rw [List.getElem?_append_left hkl] at hk
        obtain ⟨n1, hn1', hAk⟩ := hRa k r hk
        exact ⟨n1, hn1', hAk.keep (fun b hb hlt => ⟨hb.1, hobn b (by omega) hb.2⟩) (fun b hb hlt => k8 b hlt (by omega) hb.2)⟩
      · rw [List.getElem?_append_right (by omega)] at hk
        have hk0 : k - R.length = 0 := by
          rcases Nat.eq_zero_or_pos (k - R.length) with e | e
          · exact e
          · rw [List.getElem?_eq_none (by simp; omega)] at hk; cases hk
        rw [hk0] at hk
        simp only [List.getElem?_cons_zero, Option.some.injEq] at hk
        subst hk
        refine ⟨n', hn, ?_⟩
        refine hA.keep (fun b hb hlt => ⟨by omega, hobn b hlt (fun e => by have := hobl b e; omega)⟩) (fun b hb hlt => ?_)
        refine (Below.heap_setCell _ _ _ _ (by show b ≠ O; omega)).trans ((hg7.block b (by omega) (fun e => by have := hobl b e.symm; omega)).trans ?_)
        rw [← hwA]
        exact Below.heap_alloc w6 _ b hlt
/-- All are pushed. -/
theorem grow_end {w ws wr w' : World} {O M n : Nat} {g : NodeT → NodeT} {t2 : NodeT} {l : List NodeT} {va : Option Addr} {vn vc : Nat} (h : GSt w ws O M g n t2 l wr l.length va vn vc) (hk : ∀ b, M ≤ b → b < wr.heap.size → w'.heap[b]? = wr.heap[b]?) :
    vn = l.length ∧ l.length ≤ vc ∧ vc ≤ 9223372036854775807 ∧ ∀ c, c = vc ∨ c = l.length → OwnIn (fun b => M ≤ b) w' n (.slice va l.length c) (l.map g) := by
  obtain ⟨_, _, _, hnone, hob, ⟨R, hown, hRf, hRa⟩, _⟩ := h
  obtain ⟨a2, c2, e, h1, h2⟩ := ownsRow_base hown
  cases e
  refine ⟨rfl, h1, h2, fun c hc => ?_⟩
  rw [List.take_length] at hRf
  have hRl : R.length = l.length := by have := congrArg List.length hRf; simpa using this
  have hcl : (l.map g).length = l.length := by simp
  have hcv : l.length ≤ c ∧ c ≤ vc := by rcases hc with e | e <;> omega
  cases n with
  | zero =>
    cases R with
    | nil =>
      have : l = [] := List.eq_nil_of_length_eq_zero (by rw [← hRl]; rfl)
      subst this
      have hv := hnone rfl
      have hc0 : c = 0 := by omega
      subst hc0
      exact ⟨rfl, va, rfl⟩
    | cons r R => obtain ⟨n', hn, _⟩ := hRa 0 r rfl; cases hn
  | succ n =>
    refine ⟨va, c, by rw [hcl], by rw [hcl]; omega, by omega, fun hpos => ?_⟩
    rcases hown.2 with ⟨e0, h0⟩ | ⟨q, cap, cur, e, _, hgc, _, _, hgs, _⟩
    · simp only [Value.slice.injEq] at e0; omega
    · cases e
      have hg2 := hob q rfl
      have hgl := (World.ownsRow.lt hown q rfl).2
      refine ⟨q, cur, vc, rfl, hg2, (hk q hg2 hgl).trans hgc, hgs, hcv.2, fun k t ht => ?_⟩
      rw [← hRf, List.getElem?_map] at ht
      obtain ⟨r, hr, rfl⟩ := Option.map_eq_some_iff.1 ht
      obtain ⟨n', hn', hA⟩ := hRa k r hr
      cases hn'
      refine ⟨r.2, fun i u hu => ?_, hA.keep (fun b hb hlt => hb.1) (fun b hb hlt => hk b hb.1 hlt)⟩
      have hi : i < 15 := (List.getElem?_eq_some_iff.1 hu).1
      have hf := rflat_at rowC 15 rowC_len R k i r hr hi
      have := World.ownsRow.cells hown (g := q) rfl (k * 15 + i) u (hf.trans hu)
      rw [World.cell?_of_block (w := wr) (a := ⟨q, k * 15 + i, none⟩) (hk q hg2 hgl)]
      rw [← this, Addr.add_lit, Nat.zero_add]
end Go.Proofs.YtdoeejhdenifpaaGreatDoor
/- Lists that their owner writes over. -/
namespace Go.Proofs.YtdoeejhdenifpaaGreatDoor
open Go.RowKit Go.Sort

/-- A slice of nodes in whole rows of nodes with a property, whatever the nodes are, so deep. -/
def Ov (S : Nat → Prop) (w : World) : Nat → Value → Prop
  | 0, av => ∃ a, av = .slice a 0 0
  | n + 1, av => ∃ a m cap, av = .slice a m cap ∧ m ≤ cap ∧ m ≤ 1099511627744 ∧ cap ≤ 9223372036854775807 ∧ (0 < cap → ∃ b cur K, a = some ⟨b, 0, none⟩ ∧ S b ∧ w.heap[b]? = some (.cells cur 49 (0, 0)) ∧ cur.size = K * 15 ∧ cap ≤ K ∧
      ∀ k, k < m → ∃ u av', (∀ i v, (nodeC u av')[i]? = some v → w.cell? ⟨b, k * 15 + i, none⟩ = some v) ∧ Ov S w n av')
theorem Ov.nil {S : Nat → Prop} {w : World} {a : Option Addr} : ∀ n, Ov S w n (.slice a 0 0)
  | 0 => ⟨a, rfl⟩
  | _ + 1 => ⟨a, 0, 0, rfl, Nat.le_refl _, by omega, by omega, fun h => absurd h (Nat.lt_irrefl _)⟩
theorem OwnIn.ov {S : Nat → Prop} {w : World} : ∀ {n : Nat} {av : Value} {l : List NodeT}, (l.length ≤ 1099511627744 ∧ smallL l) → OwnIn S w n av l → Ov S w n av
  | 0, _, _, _, h => by obtain ⟨rfl, a, rfl⟩ := h; exact ⟨a, rfl⟩
  | n + 1, _, l, hs, h => by
    obtain ⟨a, cap, rfl, h1, h2, h3⟩ := h
    refine ⟨a, l.length, cap, rfl, h1, hs.1, h2, fun hpos => ?_⟩
    obtain ⟨b, cur, K, rfl, hb, hr, hK, hcK, hc⟩ := h3 hpos
    refine ⟨b, cur, K, rfl, hb, hr, hK, hcK, fun k hk => ?_⟩
    obtain ⟨t, ht⟩ : ∃ t, l[k]? = some t := ⟨l[k], by simp [hk]⟩
    obtain ⟨av', q1, q2⟩ := hc k t ht
    exact ⟨t, av', q1, q2.ov (smallT_args (smallL_at hs.2 ht))⟩
theorem Ov.shape {S : Nat → Prop} {w : World} {n : Nat} {av : Value} (h : Ov S w n av) : ∃ a m cap, av = .slice a m cap ∧ m ≤ cap ∧ m ≤ 1099511627744 ∧ cap ≤ 9223372036854775807 := by
  cases n with
  | zero => obtain ⟨a, rfl⟩ := h; exact ⟨a, 0, 0, rfl, Nat.le_refl _, by omega, by omega⟩
  | succ n => obtain ⟨a, m, cap, rfl, h1, h2, h3, _⟩ := h; exact ⟨a, m, cap, rfl, h1, h2, h3⟩
/-- What an owner's writing turns: rows with the property alone, and these stay such lists. -/
structure OvW (S : Nat → Prop) (w w' : World) : Prop where
  os : w'.os = w.os
  tape : w'.tape = w.tape
  output : w'.output = w.output
  size : w.heap.size ≤ w'.heap.size
  block : ∀ b, b < w.heap.size → ¬ S b → w'.heap[b]? = w.heap[b]?
  keep : ∀ n av, Ov S w n av → Ov S w' n av
theorem OvW.trans {S : Nat → Prop} {a b c : World} (h : OvW S a b) (k : OvW S b c) : OvW S a c :=
  ⟨k.os.trans h.os, k.tape.trans h.tape, k.output.trans h.output, Nat.le_trans h.size k.size, fun i hi hn => (k.block i (Nat.lt_of_lt_of_le hi h.size) hn).trans (h.block i hi hn), fun n av q => k.keep n av (h.keep n av q)⟩
theorem Ov.of_heap {S : Nat → Prop} {w w' : World} (hk : ∀ b, S b → b < w.heap.size → w'.heap[b]? = w.heap[b]?) : ∀ {n : Nat} {av : Value}, Ov S w n av → Ov S w' n av
  | 0, _, h => h
  | n + 1, _, h => by
    obtain ⟨a, m, cap, rfl, h1, h2, h4, h3⟩ := h
    refine ⟨a, m, cap, rfl, h1, h2, h4, fun hpos => ?_⟩
    obtain ⟨b, cur, K, rfl, hb, hr, hK, hcK, hc⟩ := h3 hpos
    have hlt : b < w.heap.size := (Array.getElem?_eq_some_iff.1 hr).1
    exact ⟨b, cur, K, rfl, hb, (hk b hb hlt).trans hr, hK, hcK, fun k hkm => let ⟨u, av', q1, q2⟩ := hc k hkm; ⟨u, av', fun i v hv => (World.cell?_of_block (w := w) (a := ⟨b, k * 15 + i, none⟩) (hk b hb hlt)).trans (q1 i v hv), Ov.of_heap hk q2⟩⟩
theorem OvW.of_xt {S : Nat → Prop} {w w' : World} (h : Xt w w') : OvW S w w' :=
  ⟨h.os, h.tape, h.output, h.size, fun b hb _ => h.block b hb, fun _ _ q => q.of_heap (fun b _ hb => h.block b hb)⟩
theorem setCells_rowC {T : TypeId} (b : Nat) : ∀ (vs : List Value) (o : Nat) (w : World) (cur : Array Value), w.heap[b]? = some (.cells cur T (0, 0)) → ∃ cur', (w.setCells b o vs).heap[b]? = some (.cells cur' T (0, 0)) ∧ cur'.size = cur.size
  | [], _, _, cur, h => ⟨cur, h, rfl⟩
  | v :: r, o, w, cur, h => by
    rw [World.setCells]
    obtain ⟨cur', h1, h2⟩ := setCells_rowC b r (o + 1) _ _ (heap_setCell_same w b o cur T v h)
    exact ⟨cur', h1, by simpa using h2⟩
theorem setCells_far (b : Nat) : ∀ (vs : List Value) (o : Nat) (w : World) (k : Nat), k ≠ b → (w.setCells b o vs).heap[k]? = w.heap[k]?
  | [], _, _, _, _ => rfl
  | v :: r, o, w, k, h => by
    rw [World.setCells]
    exact (setCells_far b r (o + 1) _ k h).trans (Below.heap_setCell _ _ _ _ h)
theorem setCells_size (b : Nat) : ∀ (vs : List Value) (o : Nat) (w : World), (w.setCells b o vs).heap.size = w.heap.size ∧ (w.setCells b o vs).os = w.os ∧ (w.setCells b o vs).tape = w.tape ∧ (w.setCells b o vs).output = w.output
  | [], _, _ => ⟨rfl, rfl, rfl, rfl⟩
  | v :: r, o, w => by
    rw [World.setCells]
    obtain ⟨h1, h2, h3, h4⟩ := setCells_size b r (o + 1) (w.setCell ⟨b, o, none⟩ v)
    exact ⟨h1.trans (by simp), h2, h3, h4⟩
/-- A node without args. -/
def leafT (k : Int) (s : ByteArray) : NodeT := .mk k 0 0 s false 0 zR zR []
/-- An element's node is written: those that are such lists are such lists. -/
theorem Ov.written {S : Nat → Prop} {w : World} {b k : Nat} {u : NodeT} {av0 : Value} {w' : World} (hav : ∀ n, Ov S w n (.slice none 0 0))
    (hfar : ∀ j, j ≠ b → w'.heap[j]? = w.heap[j]?) (hrow : ∀ cur, w.heap[b]? = some (.cells cur 49 (0, 0)) → ∃ cur', w'.heap[b]? = some (.cells cur' 49 (0, 0)) ∧ cur'.size = cur.size)
    (hel : ∀ (k' : Nat) (u' : NodeT) (av' : Value), (∀ i v, (nodeC u' av')[i]? = some v → w.cell? ⟨b, k' * 15 + i, none⟩ = some v) → ∃ u2, (∀ i v, (nodeC u2 av')[i]? = some v → w'.cell? ⟨b, k' * 15 + i, none⟩ = some v) ∨ (∀ i v, (nodeC u2 (.slice none 0 0))[i]? = some v → w'.cell? ⟨b, k' * 15 + i, none⟩ = some v)) : ∀ {n : Nat} {av : Value}, Ov S w n av → Ov S w' n av
  | 0, _, h => h
  | n + 1, _, h => by
    obtain ⟨a, m, cap, rfl, h1, h2, h4, h3⟩ := h
    refine ⟨a, m, cap, rfl, h1, h2, h4, fun hpos => ?_⟩
    obtain ⟨b', cur, K, rfl, hb, hr, hK, hcK, hc⟩ := h3 hpos
    by_cases e : b' = b
    · subst e
      obtain ⟨cur', hr', hs'⟩ := hrow cur hr
      refine ⟨b', cur', K, rfl, hb, hr', hs'.trans hK, hcK, fun k' hk' => ?_⟩
      obtain ⟨u', av', q1, q2⟩ := hc k' hk'
      obtain ⟨u2, q | q⟩ := hel k' u' av' q1
      · exact ⟨u2, av', q, Ov.written (k := k) (u := u) (av0 := av0) hav hfar hrow hel q2⟩
      · exact ⟨u2, _, q, Ov.nil n⟩
    · exact ⟨b', cur, K, rfl, hb, (hfar b' e).trans hr, hK, hcK, fun k' hk' => let ⟨u', av', q1, q2⟩ := hc k' hk'; ⟨u', av', fun i v hv => (World.cell?_of_block (w := w) (a := ⟨b', k' * 15 + i, none⟩) (hfar b' e)).trans (q1 i v hv), Ov.written (k := k) (u := u) (av0 := av0) hav hfar hrow hel q2⟩⟩
theorem row_thereN {w : World} {b k K : Nat} {cur : Array Value} {T : TypeId} (hr : w.heap[b]? = some (.cells cur T (0, 0))) (hK : cur.size = K * 15) (hk : k < K) : w.there b (k * 15) 15 := fun j hj => by
  have hlt : k * 15 + j < cur.size := by omega
  constructor
  · have : w.cell? ⟨b, k * 15 + j, none⟩ = cur[k * 15 + j]? := by simp [World.cell?, hr]
    rw [this, Array.getElem?_eq_getElem hlt]; rfl
  · simp [World.frozen?, hr]
theorem leaf_len (u : NodeT) (av : Value) : (nodeC u av).length = 15 := rfl
theorem OvW.store {S : Nat → Prop} {w : World} {b k K : Nat} {cur : Array Value} (hS : S b) (hr : w.heap[b]? = some (.cells cur 49 (0, 0))) (hK : cur.size = K * 15) (hk : k < K) (u : NodeT) : OvW S w (w.setCells b (k * 15) (nodeC u (.slice none 0 0))) := by
  obtain ⟨s1, s2, s3, s4⟩ := setCells_size b (nodeC u (.slice none 0 0)) (k * 15) w
  have ht := row_thereN hr hK hk
  refine ⟨s2, s3, s4, by omega, fun j _ hn => setCells_far b _ _ w j (fun e => hn (e ▸ hS)), fun n av h => Ov.written (k := k) (u := u) (av0 := .slice none 0 0) (fun _ => Ov.nil _) (fun j hj => setCells_far b _ _ w j hj) (fun cur h => setCells_rowC b _ _ w cur h) (fun k' u' av' q => ?_) h⟩
  by_cases e : k' = k
  · subst e
    exact ⟨u, Or.inr (World.rangeAt_setCells_same w b (k' * 15) _ ht)⟩
  · refine ⟨u', Or.inl (fun i v hv => World.rangeAt_setCells_apart (b' := b) (o' := k' * 15) (cs := nodeC u' av') q b (k * 15) _ ?_ i v hv)⟩
    right; rw [leaf_len, leaf_len]; omega
theorem OvW.kind {S : Nat → Prop} {w : World} {b k K : Nat} {cur : Array Value} (hS : S b) (hr : w.heap[b]? = some (.cells cur 49 (0, 0))) (hK : cur.size = K * 15) (hk : k < K) (z : Int) : OvW S w (w.setCell ⟨b, k * 15, none⟩ (.int .i64 z)) := by
  have ht := row_thereN hr hK hk
  refine ⟨rfl, rfl, rfl, by simp, fun j _ hn => Below.heap_setCell _ _ _ _ (fun e => hn (e ▸ hS)), fun n av h => Ov.written (k := k) (u := leafT 0 ⟨#[]⟩) (av0 := .slice none 0 0) (fun _ => Ov.nil _) (fun j hj => Below.heap_setCell _ _ _ _ hj) (fun cur h => ⟨_, heap_setCell_same w b (k * 15) cur _ _ h, by simp⟩) (fun k' u' av' q => ?_) h⟩
  by_cases e : k' = k
  · subst e
    obtain ⟨kk, o, x, s, bb, f, r, g, l⟩ := u'
    refine ⟨.mk z o x s bb f r g l, Or.inl (fun i v hv => ?_)⟩
    by_cases h0 : i = 0
    · subst h0
      obtain ⟨y, hy⟩ := Option.isSome_iff_exists.1 (ht 0 (by omega)).1
      have : v = .int .i64 z := by simpa [nodeC, NodeT.kind] using hv.symm
      rw [this]
      exact World.cell?_setCell_same w _ _ hy
    · rw [World.cell?_setCell_other w _ _ _ (fun e => by have := congrArg Addr.off e; simp at this; omega)]
      refine q i v ?_
      rw [← hv]
      obtain ⟨j, rfl⟩ : ∃ j, i = j + 1 := ⟨i - 1, by omega⟩
      rfl
  · refine ⟨u', Or.inl (fun i v hv => ?_)⟩
    have hi : i < 15 := (List.getElem?_eq_some_iff.1 hv).1
    rw [World.cell?_setCell_other w _ _ _ (fun e2 => by have := congrArg Addr.off e2; simp at this; omega)]
    exact q i v hv
end Go.Proofs.YtdoeejhdenifpaaGreatDoor
/- Lists of one's own whose parts have nothing in common. -/
namespace Go.Proofs.YtdoeejhdenifpaaGreatDoor
open Go.RowKit Go.Sort

/-- A list of one's own, so deep, whose parts lie apart: from one another, and from the list's own row. -/
def SepIn (S : Nat → Prop) (w : World) : Nat → Value → List NodeT → Prop
  | 0, av, l => l = [] ∧ ∃ a, av = .slice a 0 0
  | n + 1, av, l => ∃ a cap, av = .slice a l.length cap ∧ l.length ≤ cap ∧ cap ≤ 9223372036854775807 ∧ (0 < cap → ∃ b cur K, ∃ T : Nat → Nat → Prop, a = some ⟨b, 0, none⟩ ∧ S b ∧ w.heap[b]? = some (.cells cur 49 (0, 0)) ∧ cur.size = K * 15 ∧ cap ≤ K ∧
      (∀ k c, T k c → S c ∧ c ≠ b) ∧ (∀ k k' c, k ≠ k' → T k c → ¬ T k' c) ∧
      ∀ k t, l[k]? = some t → ∃ av', (∀ i u, (nodeC t av')[i]? = some u → w.cell? ⟨b, k * 15 + i, none⟩ = some u) ∧ SepIn (T k) w n av' t.args)
theorem SepIn.own {w : World} : ∀ {S : Nat → Prop} {n : Nat} {av : Value} {l : List NodeT}, SepIn S w n av l → OwnIn S w n av l
  | _, 0, _, _, h => h
  | S, n + 1, _, _, h => by
    obtain ⟨a, cap, rfl, h1, h2, h3⟩ := h
    refine ⟨a, cap, rfl, h1, h2, fun hpos => ?_⟩
    obtain ⟨b, cur, K, T, rfl, hb, hr, hK, hcK, hT, _, hc⟩ := h3 hpos
    exact ⟨b, cur, K, rfl, hb, hr, hK, hcK, fun k t ht => let ⟨av', q1, q2⟩ := hc k t ht; ⟨av', q1, q2.own.keep (fun c hc _ => (hT k c hc).1) (fun _ _ _ => rfl)⟩⟩
theorem SepIn.keep {w w' : World} : ∀ {S : Nat → Prop} {n : Nat} {av : Value} {l : List NodeT}, (∀ b, S b → b < w.heap.size → w'.heap[b]? = w.heap[b]?) → SepIn S w n av l → SepIn S w' n av l
  | _, 0, _, _, _, h => h
  | S, n + 1, _, _, hk, h => by
    obtain ⟨a, cap, rfl, h1, h2, h3⟩ := h
    refine ⟨a, cap, rfl, h1, h2, fun hpos => ?_⟩
    obtain ⟨b, cur, K, T, rfl, hb, hr, hK, hcK, hT, hD, hc⟩ := h3 hpos
    have hlt : b < w.heap.size := (Array.getElem?_eq_some_iff.1 hr).1
    exact ⟨b, cur, K, T, rfl, hb, (hk b hb hlt).trans hr, hK, hcK, hT, hD, fun k t ht => let ⟨av', q1, q2⟩ := hc k t ht; ⟨av', fun i u hu => (World.cell?_of_block (w := w) (a := ⟨b, k * 15 + i, none⟩) (hk b hb hlt)).trans (q1 i u hu), q2.keep (fun c hc => hk c (hT k c hc).1)⟩⟩
theorem SepIn.weak {w : World} {S S' : Nat → Prop} (hS : ∀ b, S b → b < w.heap.size → S' b) : ∀ {n : Nat} {av : Value} {l : List NodeT}, SepIn S w n av l → SepIn (fun b => S' b) w n av l
  | 0, _, _, h => h
  | n + 1, _, _, h => by
    obtain ⟨a, cap, rfl, h1, h2, h3⟩ := h
    refine ⟨a, cap, rfl, h1, h2, fun hpos => ?_⟩
    obtain ⟨b, cur, K, T, rfl, hb, hr, hK, hcK, hT, hD, hc⟩ := h3 hpos
    have hlt : b < w.heap.size := (Array.getElem?_eq_some_iff.1 hr).1
    exact ⟨b, cur, K, fun k c => T k c ∧ c < w.heap.size, rfl, hS b hb hlt, hr, hK, hcK, fun k c h => ⟨hS c (hT k c h.1).1 h.2, (hT k c h.1).2⟩, fun k k' c hne h h' => hD k k' c hne h.1 h'.1, fun k t ht => let ⟨av', q1, q2⟩ := hc k t ht; ⟨av', q1, SepIn.weak (S := T k) (S' := fun c => T k c ∧ c < w.heap.size) (fun c h hl => ⟨h, hl⟩) q2⟩⟩
/-- The rows that a round has laid. -/
structure SRows (wr : World) (M : Nat) (g : NodeT → NodeT) (n : Nat) (ob : Option Nat) (l : List NodeT) (R : List (NodeT × Value)) : Prop where
  fst : R.map Prod.fst = l.map g
  args : ∃ lo hi : Nat → Nat, (∀ (k : Nat) (r : NodeT × Value), R[k]? = some r → ∃ n', n = n' + 1 ∧ SepIn (fun b => lo k ≤ b ∧ b < hi k) wr n' r.2 r.1.args) ∧ (∀ k, k < R.length → M ≤ lo k ∧ hi k ≤ wr.heap.size ∧ ∀ q, ob = some q → ¬ (lo k ≤ q ∧ q < hi k)) ∧ (∀ k k', k < k' → k' < R.length → hi k ≤ lo k')
/-- O the block of the node whose args grow; what they lie in begins at M. -/
structure SSt (w ws : World) (O M : Nat) (g : NodeT → NodeT) (n : Nat) (t2 : NodeT) (l : List NodeT) (wr : World) (i : Nat) (va : Option Addr) (vn vc : Nat) : Prop where
  lo : w.heap.size ≤ O ∧ O < M ∧ M = ws.heap.size ∧ M ≤ wr.heap.size
  box : NodeAt wr O 0 t2 va vn vc
  f14 : wr.frozen? ⟨O, 14, none⟩ = false
  none : i = 0 → vc = 0
  ob : ∀ q, (Value.slice va vn vc).ownBlock = some q → M ≤ q
  rows : ∃ R, wr.ownsRow 0 49 15 (.slice va vn vc) i (R.flatMap rowC) ∧ SRows wr M g n (Value.slice va vn vc).ownBlock (l.take i) R
  keep : ∀ b, b < M → b ≠ O → wr.heap[b]? = ws.heap[b]?
  xt : Xt w wr
theorem sep_start {w ws : World} {O : Nat} (g : NodeT → NodeT) (n : Nat) {t2 : NodeT} (l : List NodeT) (h1 : w.heap.size ≤ O) (h2 : O < ws.heap.size) (hb : NodeAt ws O 0 t2 none 0 0) (hf : ws.frozen? ⟨O, 14, none⟩ = false) (hx : Xt w ws) :
    SSt w ws O ws.heap.size g n t2 l ws 0 none 0 0 :=
  ⟨⟨h1, h2, rfl, Nat.le_refl _⟩, hb, hf, fun _ => rfl, fun q hq => (by cases hq), ⟨[], World.ownsRow_nil _ _ _ _, rfl, fun _ => 0, fun _ => 0, fun k r hk => (by simp at hk), fun k hk => (by simp at hk), fun k k' _ hk => (by simp at hk)⟩, fun _ _ _ => rfl, hx⟩
theorem SSt.lenR {R : List (NodeT × Value)} {g : NodeT → NodeT} {l : List NodeT} {i : Nat} (h : R.map Prod.fst = (l.take i).map g) (hi : i ≤ l.length) : R.length = i := by
  have := congrArg List.length h
  simp at this; omega
/-- The child's box is pushed. -/
theorem sep_push {w ws wr w6 : World} {O M n n' i : Nat} {g : NodeT → NodeT} {t2 x : NodeT} {l : List NodeT} {va a' : Option Addr} {vn vc c' : Nat} (hn : n = n' + 1) (h : SSt w ws O M g n t2 l wr i va vn vc) (hx : l[i]? = some x) (hl : l.length ≤ 1099511627744) (h6 : Xt wr w6)
    (hA : SepIn (fun b => wr.heap.size ≤ b ∧ b < w6.heap.size) w6 n' (.slice a' (g x).args.length c') (g x).args) (wA : World)
    (hwA : w6.alloc (.cells #[.int .i64 (g x).kind, .int .i64 (g x).op, .float .f64 (g x).x, .string (g x).s, .bool (g x).b, .int .i64 (g x).f, .int .i64 (g x).ref.a.1, .int .i64 (g x).ref.a.2, .bool (g x).ref.cf, .bool (g x).ref.rf, .int .i64 (g x).to.a.1, .int .i64 (g x).to.a.2, .bool (g x).to.cf, .bool (g x).to.rf, .slice a' (g x).args.length c'] 49) = wA) :
    ∃ va' vn' vc' w7, (Builtin.append_ #[47, 47] 47 #[.slice va vn vc, .slice (some ⟨w6.heap.size, 0, none⟩) 1 1]).run Tryz.prog wA = .ok (.slice va' vn' vc') w7 ∧ (w6.cell? ⟨O, 14, none⟩ = some (.slice va vn vc) ∧ wA.cell? ⟨O, 14, none⟩ = some (.slice va vn vc) ∧ w7.cell? ⟨O, 14, none⟩ = some (.slice va vn vc)) ∧ w7.frozen? ⟨O, 14, none⟩ = false ∧
      (∀ b, b < wr.heap.size → (b < M ∧ b ≠ O ∨ b < w.heap.size) → w6.heap[b]? = wr.heap[b]? ∧ wA.heap[b]? = wr.heap[b]? ∧ w7.heap[b]? = wr.heap[b]? ∧ (w7.setCell ⟨O, 14, none⟩ (.slice va' vn' vc')).heap[b]? = wr.heap[b]?) ∧
      (∀ b, wr.heap.size ≤ b → b < wA.heap.size → w7.heap[b]? = wA.heap[b]? ∧ (w7.setCell ⟨O, 14, none⟩ (.slice va' vn' vc')).heap[b]? = wA.heap[b]?) ∧
      SSt w ws O M g n t2 l (w7.setCell ⟨O, 14, none⟩ (.slice va' vn' vc')) (i + 1) va' vn' vc' := by
  obtain ⟨i0, hi, hz0, hz1, hz2⟩ := info_parts infoNode
  obtain ⟨⟨hO1, hO2, hM, hMr⟩, hbox, hf14, hnone, hob, ⟨R, hown, hRf, lo, hi', hRa, hRb, hRc⟩, hkeep, hxt⟩ := h
  have hil : i < l.length := (List.getElem?_eq_some_iff.1 hx).1
  have hBr : O < wr.heap.size := by omega
  have h6s := h6.sz
  have hxtA : Xt wr wA := by rw [← hwA]; exact h6.alloc _
  have hAs : wA.heap.size = w6.heap.size + 1 := by rw [← hwA]; simp
  have hRl : R.length = i := SSt.lenR hRf (by omega)
  have hownA : wA.ownsRow 0 49 15 (.slice va vn vc) i (R.flatMap rowC) :=
    World.ownsRow.kept hown (row := none) ⟨hxtA.os, hxtA.tape, hxtA.output, hxtA.size, fun k hk _ => hxtA.block k hk⟩ (by
      cases (Value.slice va vn vc).ownBlock with
      | none => exact Or.inl rfl
      | some q => exact Or.inr (by simp))
  have hnews : ∀ (j : Nat) (u : Value), (nodeC (g x) (.slice a' (g x).args.length c'))[j]? = some u → wA.cell? ((⟨w6.heap.size, 0, none⟩ : Addr).add j) = some u := by
    rw [← hwA]
    exact news_at w6 (nodeC (g x) (.slice a' (g x).args.length c')) 49 (b := w6.heap.size) rfl
  obtain ⟨v', w7, hpush, hown7, hg7, hwh⟩ := run_append_where (P := Tryz.prog) wA 47 47 49 i0 _ 15 128 Tryz.underlying47 hi hz0 hz1 hz2 rfl (by decide) (.slice va vn vc) i (R.flatMap rowC) hownA ⟨w6.heap.size, 0, none⟩ 1 1 (nodeC (g x) (.slice a' (g x).args.length c')) rfl hnews (nodeC_one _ _ rfl) (by unfold maxLen; omega) (by omega)
  obtain ⟨va', vc', rfl, hvc1, hvc2⟩ := ownsRow_base hown7
  have hobl : ∀ q, (Value.slice va vn vc).ownBlock = some q → q < wr.heap.size := fun q hq => (World.ownsRow.lt hown q hq).2
  have hob' : ∀ q, (Value.slice va' (i + 1) vc').ownBlock = some q → M ≤ q ∧ q < w7.heap.size := by
    intro q hq
    have hlt := (World.ownsRow.lt hown7 q hq).2
    rcases hwh with e | e
    · rw [e] at hq; exact ⟨hob q hq, hlt⟩
    · have := e q hq; exact ⟨by omega, hlt⟩
  have hx7 : Xt w w7 := (hxt.trans hxtA).grownB hg7 (fun m hm => by have := hob m hm; omega)
  have hn0 : (Value.slice va vn vc).ownBlock ≠ some O := fun e => by have := hob _ e; omega
  have k7h : ∀ b, b < wr.heap.size → (Value.slice va vn vc).ownBlock ≠ some b → w7.heap[b]? = wr.heap[b]? := fun b hb hne =>
    (hg7.block b (by omega) (fun e => hne e.symm)).trans (hxtA.block b hb)
  have k7 : ∀ b o, b < wr.heap.size → (Value.slice va vn vc).ownBlock ≠ some b → w7.cell? ⟨b, o, none⟩ = wr.cell? ⟨b, o, none⟩ := fun b o hb hne =>
    World.cell?_of_block (w := wr) (a := ⟨b, o, none⟩) (k7h b hb hne)
  have hc14 := (k7 O 14 hBr hn0).trans hbox.c14
  have hcell : ∀ o v, o ≠ 14 → wr.cell? ⟨O, o, none⟩ = some v → (w7.setCell ⟨O, 14, none⟩ (.slice va' (i + 1) vc')).cell? ⟨O, o, none⟩ = some v := fun o v ho hv =>
    (World.cell?_setCell_other w7 _ _ _ (by intro e; cases e; exact ho rfl)).trans ((k7 _ o hBr hn0).trans hv)
  have hf7 : w7.frozen? ⟨O, 14, none⟩ = false :=
    (World.frozen?_of_block (w := wr) (a := ⟨O, 14, none⟩) (k7h _ hBr hn0)).trans hf14
  have k8 : ∀ b, b < wr.heap.size → b ≠ O → (Value.slice va vn vc).ownBlock ≠ some b → (w7.setCell ⟨O, 14, none⟩ (.slice va' (i + 1) vc')).heap[b]? = wr.heap[b]? := fun b hb hne hob =>
    (Below.heap_setCell _ _ _ _ hne).trans (k7h b hb hob)
  have hsz7 : M ≤ w7.heap.size := by have := hg7.size; omega
  refine ⟨va', i + 1, vc', w7, hpush, ⟨((h6.cells).1 _ _ hBr).trans hbox.c14, ((hxtA.cells).1 _ _ hBr).trans hbox.c14, hc14⟩, hf7, fun b hb hor => ?_, fun b hb hl => ?_, ⟨⟨hO1, hO2, hM, by simpa using hsz7⟩, ?_, ?_, fun e => by omega, fun q hq => (hob' q hq).1, ?_, fun b hb hne => (k8 b (by omega) hne (fun e => by have := hob b e; omega)).trans (hkeep b hb hne), hx7.grownB (setCell_grown _ _ _ _) (fun m hm => by cases hm; exact hO1)⟩⟩
  · have hbM : b < M := by rcases hor with h | h <;> omega
    have hbO : b ≠ O := by rcases hor with h | h <;> omega
    exact ⟨h6.block b hb, hxtA.block b hb, k7h b hb (fun e => by have := hob b e; omega), k8 b hb hbO (fun e => by have := hob b e; omega)⟩
  · have e7 : w7.heap[b]? = wA.heap[b]? := hg7.block b hl (fun e => by have := hobl b e.symm; omega)
    exact ⟨e7, (Below.heap_setCell _ _ _ _ (by show b ≠ O; omega)).trans e7⟩
  · refine ⟨?_, ?_, ?_, ?_, ?_, ?_, ?_, ?_, ?_, ?_, ?_, ?_, ?_, ?_, ?_⟩
    · exact hcell _ _ (by omega) hbox.c0
    · exact hcell _ _ (by omega) hbox.c1
    · exact hcell _ _ (by omega) hbox.c2
    · exact hcell _ _ (by omega) hbox.c3
    · exact hcell _ _ (by omega) hbox.c4
    · exact hcell _ _ (by omega) hbox.c5
    · exact hcell _ _ (by omega) hbox.c6
    · exact hcell _ _ (by omega) hbox.c7
    · exact hcell _ _ (by omega) hbox.c8
    · exact hcell _ _ (by omega) hbox.c9
    · exact hcell _ _ (by omega) hbox.c10
    · exact hcell _ _ (by omega) hbox.c11
    · exact hcell _ _ (by omega) hbox.c12
    · exact hcell _ _ (by omega) hbox.c13
    · rw [Nat.zero_add]; exact World.cell?_setCell_same' w7 _ _ (by rw [hc14]; rfl)
  · simp [hf7]
  · have e7 : (R ++ [(g x, Value.slice a' (g x).args.length c')]).flatMap rowC = R.flatMap rowC ++ nodeC (g x) (.slice a' (g x).args.length c') := by simp [rowC]
    have hobn : ∀ b, b < w6.heap.size → (Value.slice va vn vc).ownBlock ≠ some b → (Value.slice va' (i + 1) vc').ownBlock ≠ some b := by
      intro b hb hne e
      rcases hwh with e' | e'
      · rw [e'] at e; exact hne e
      · have := e' b e; omega
    refine ⟨R ++ [(g x, .slice a' (g x).args.length c')], ?_, ?_, fun k => if k < i then lo k else wr.heap.size, fun k => if k < i then hi' k else w6.heap.size, ?_, ?_, ?_⟩
    · rw [e7]
      exact ownsRow_setCell_other hown7 (a := ⟨O, 14, none⟩) (fun e => by have := (hob' _ e).1; simp at this; omega) _
    · rw [List.map_append, hRf, List.take_add_one, hx]; simp
    · intro k r hk
      by_cases hkl : k < R.length
      · rw [List.getElem?_append_left hkl] at hk
        obtain ⟨n1, hn1', hAk⟩ := hRa k r hk
        obtain ⟨b1, b2, b3⟩ := hRb k hkl
        have hki : k < i := by omega
        simp only [hki, if_true]
        exact ⟨n1, hn1', hAk.keep (fun b hb hlt => k8 b hlt (by omega) (fun e => b3 b e hb))⟩
      · rw [List.getElem?_append_right (by omega)] at hk
        have hk0 : k - R.length = 0 := by
          rcases Nat.eq_zero_or_pos (k - R.length) with e | e
          · exact e
          · rw [List.getElem?_eq_none (by simp; omega)] at hk; cases hk
        rw [hk0] at hk
        simp only [List.getElem?_cons_zero, Option.some.injEq] at hk
        subst hk
        have hki : ¬ k < i := by omega
        simp only [hki, if_false]
        refine ⟨n', hn, hA.keep (fun b hb hlt => ?_)⟩
        refine (Below.heap_setCell _ _ _ _ (by show b ≠ O; omega)).trans ((hg7.block b (by omega) (fun e => by have := hobl b e.symm; omega)).trans ?_)
        rw [← hwA]
        exact Below.heap_alloc w6 _ b hlt
    · intro k hk
      have hsz8 : (w7.setCell ⟨O, 14, none⟩ (.slice va' (i + 1) vc')).heap.size = w7.heap.size := by simp
      have hs7 := hg7.size
      by_cases hki : k < i
      · obtain ⟨b1, b2, b3⟩ := hRb k (by omega)
        simp only [hki, if_true]
        refine ⟨b1, by omega, fun q hq hb => ?_⟩
        rcases hwh with e' | e'
        · rw [e'] at hq; exact b3 q hq hb
        · have := e' q hq; omega
      · simp only [hki, if_false]
        refine ⟨hMr, by omega, fun q hq hb => ?_⟩
        rcases hwh with e' | e'
        · rw [e'] at hq; have := hobl q hq; omega
        · have := e' q hq; omega
    · intro k k' hkk hk'
      simp only [List.length_append, List.length_cons, List.length_nil] at hk'
      by_cases hki' : k' < i
      · have hki : k < i := by omega
        simp only [hki, hki', if_true]
        exact hRc k k' hkk (by omega)
      · have hki : k < i := by omega
        obtain ⟨b1, b2, b3⟩ := hRb k (by omega)
        simp only [hki, hki', if_true, if_false]
        exact b2
/-- All are pushed. -/
theorem sep_end {w ws wr w' : World} {O M n : Nat} {g : NodeT → NodeT} {t2 : NodeT} {l : List NodeT} {va : Option Addr} {vn vc : Nat} (h : SSt w ws O M g n t2 l wr l.length va vn vc) (hk : ∀ b, M ≤ b → b < wr.heap.size → w'.heap[b]? = wr.heap[b]?) :
    vn = l.length ∧ l.length ≤ vc ∧ vc ≤ 9223372036854775807 ∧ ∀ c, c = vc ∨ c = l.length → SepIn (fun b => M ≤ b ∧ b < wr.heap.size) w' n (.slice va l.length c) (l.map g) := by
  obtain ⟨_, _, _, hnone, hob, ⟨R, hown, hRf, lo, hi', hRa, hRb, hRc⟩, _⟩ := h
  obtain ⟨a2, c2, e, h1, h2⟩ := ownsRow_base hown
  cases e
  refine ⟨rfl, h1, h2, fun c hc => ?_⟩
  rw [List.take_length] at hRf
  have hRl : R.length = l.length := by have := congrArg List.length hRf; simpa using this
  have hcl : (l.map g).length = l.length := by simp
  have hcv : l.length ≤ c ∧ c ≤ vc := by rcases hc with e | e <;> omega
  cases n with
  | zero =>
    cases R with
    | nil =>
      have : l = [] := List.eq_nil_of_length_eq_zero (by rw [← hRl]; rfl)
      subst this
      have hv := hnone rfl
      have hc0 : c = 0 := by omega
      subst hc0
      exact ⟨rfl, va, rfl⟩
    | cons r R => obtain ⟨n', hn, _⟩ := hRa 0 r rfl; cases hn
  | succ n =>
    refine ⟨va, c, by rw [hcl], by rw [hcl]; omega, by omega, fun hpos => ?_⟩
    rcases hown.2 with ⟨e0, h0⟩ | ⟨q, cap, cur, e, _, hgc, _, _, hgs, _⟩
    · simp only [Value.slice.injEq] at e0; omega
    · cases e
      have hg2 := hob q rfl
      have hgl := (World.ownsRow.lt hown q rfl).2
      refine ⟨q, cur, vc, fun k c => k < R.length ∧ lo k ≤ c ∧ c < hi' k, rfl, ⟨hg2, hgl⟩, (hk q hg2 hgl).trans hgc, hgs, hcv.2, fun k c hc => ?_, fun k k' c hne h h' => ?_, fun k t ht => ?_⟩
      · obtain ⟨b1, b2, b3⟩ := hRb k hc.1
        exact ⟨⟨by omega, by omega⟩, fun e => b3 q rfl (by subst e; exact hc.2)⟩
      · rcases Nat.lt_or_gt_of_ne hne with e | e
        · have := hRc k k' e h'.1; omega
        · have := hRc k' k e h.1; omega
      rw [← hRf, List.getElem?_map] at ht
      obtain ⟨r, hr, rfl⟩ := Option.map_eq_some_iff.1 ht
      obtain ⟨n', hn', hA⟩ := hRa k r hr
      cases hn'
      refine ⟨r.2, fun i u hu => ?_, ((hA.keep (w' := w') (fun b hb hlt => hk b (by have := (hRb k (List.getElem?_eq_some_iff.1 hr).1).1; omega) hlt)).weak (fun b hb _ => ⟨(List.getElem?_eq_some_iff.1 hr).1, hb.1, hb.2⟩))⟩
      have hi : i < 15 := (List.getElem?_eq_some_iff.1 hu).1
      have hf := rflat_at rowC 15 rowC_len R k i r hr hi
      have := World.ownsRow.cells hown (g := q) rfl (k * 15 + i) u (hf.trans hu)
      rw [World.cell?_of_block (w := wr) (a := ⟨q, k * 15 + i, none⟩) (hk q hg2 hgl)]
      rw [← this, Addr.add_lit, Nat.zero_add]
end Go.Proofs.YtdoeejhdenifpaaGreatDoor
/- A formula whose references have gone a road: the tree; an element of a list of one's own is written. -/
namespace Go.Proofs.YtdoeejhdenifpaaGreatDoor
open Go.RowKit Go.Sort

def arOf (r q : RefT) : ArT := ⟨r.a.1, r.a.2, q.a.1, q.a.2⟩
def lostT : NodeT := .mk 4 0 0 ⟨#[]⟩ false 4 zR zR []
/-- A node whose args have gone the road goes it. -/
def turnH (cG : Ad → Ad × Bool) (aG : ArT → ArT × Bool) : NodeT → NodeT
  | .mk k o x s b f r q l =>
    if k = 5 then (if (cG r.a).2 = true then .mk k o x s b f ⟨(cG r.a).1, r.cf, r.rf⟩ q l else lostT)
    else if k = 6 then (if (aG (arOf r q)).2 = true then .mk k o x s b f ⟨((aG (arOf r q)).1.a, (aG (arOf r q)).1.b), r.cf, r.rf⟩ ⟨((aG (arOf r q)).1.c, (aG (arOf r q)).1.d), q.cf, q.rf⟩ l else lostT)
    else .mk k o x s b f r q l
mutual
def turnT (cG : Ad → Ad × Bool) (aG : ArT → ArT × Bool) : NodeT → NodeT
  | .mk k o x s b f r q l => turnH cG aG (.mk k o x s b f r q (turnL cG aG l))
def turnL (cG : Ad → Ad × Bool) (aG : ArT → ArT × Bool) : List NodeT → List NodeT
  | [] => []
  | t :: l => turnT cG aG t :: turnL cG aG l
end
theorem turnL_map (cG : Ad → Ad × Bool) (aG : ArT → ArT × Bool) : ∀ l : List NodeT, turnL cG aG l = l.map (turnT cG aG)
  | [] => rfl
  | t :: l => by rw [turnL, turnL_map cG aG l]; rfl
def withL : NodeT → List NodeT → NodeT
  | .mk k o x s b f r q _, l => .mk k o x s b f r q l
theorem turnT_eq (cG : Ad → Ad × Bool) (aG : ArT → ArT × Bool) (t : NodeT) : turnT cG aG t = turnH cG aG (withL t (t.args.map (turnT cG aG))) := by
  obtain ⟨k, o, x, s, b, f, r, q, l⟩ := t
  rw [turnT, turnL_map]; rfl
/-- What an owner's writing turns: blocks with the property alone. -/
structure Wr (S : Nat → Prop) (w w' : World) : Prop where
  os : w'.os = w.os
  tape : w'.tape = w.tape
  output : w'.output = w.output
  size : w.heap.size ≤ w'.heap.size
  block : ∀ b, b < w.heap.size → ¬ S b → w'.heap[b]? = w.heap[b]?
theorem Wr.refl (S : Nat → Prop) (w : World) : Wr S w w := ⟨rfl, rfl, rfl, Nat.le_refl _, fun _ _ _ => rfl⟩
theorem Wr.trans {S : Nat → Prop} {a b c : World} (h : Wr S a b) (k : Wr S b c) : Wr S a c :=
  ⟨k.os.trans h.os, k.tape.trans h.tape, k.output.trans h.output, Nat.le_trans h.size k.size, fun i hi hn => (k.block i (Nat.lt_of_lt_of_le hi h.size) hn).trans (h.block i hi hn)⟩
theorem Wr.of_xt {S : Nat → Prop} {w w' : World} (h : Xt w w') : Wr S w w' := ⟨h.os, h.tape, h.output, h.size, fun b hb _ => h.block b hb⟩
theorem Wr.weak {S S' : Nat → Prop} {w w' : World} (h : Wr S w w') (hS : ∀ b, S b → S' b) : Wr S' w w' := ⟨h.os, h.tape, h.output, h.size, fun b hb hn => h.block b hb fun q => hn (hS b q)⟩
theorem Wr.xt {S : Nat → Prop} {w w' : World} {V : World} (h : Wr S w w') (hV : Xt V w) (hS : ∀ b, S b → V.heap.size ≤ b) : Xt V w' :=
  ⟨h.os.trans hV.os, h.tape.trans hV.tape, h.output.trans hV.output, Nat.le_trans hV.size h.size, fun b hb => (h.block b (Nat.lt_of_lt_of_le hb hV.size) fun q => absurd (hS b q) (by omega)).trans (hV.block b hb)⟩
theorem Wr.set {S : Nat → Prop} {w : World} {b o : Nat} (vs : List Value) (hb : S b) : Wr S w (w.setCells b o vs) := by
  obtain ⟨s1, s2, s3, s4⟩ := setCells_size b vs o w
  exact ⟨s2, s3, s4, by omega, fun j _ hn => setCells_far b _ _ w j (fun e => hn (e ▸ hb))⟩
/-- An element of a list of one's own; what the list is once the element's node is written. -/
theorem SepIn.elem {S : Nat → Prop} {w : World} {n i m cap : Nat} {a : Option Addr} {l : List NodeT} {t : NodeT} (h : SepIn S w n (.slice a m cap) l) (ht : l[i]? = some t) :
    ∃ n' b a' c' T, n = n' + 1 ∧ a = some ⟨b, 0, none⟩ ∧ S b ∧ b < w.heap.size ∧ (∀ c, T c → S c ∧ c ≠ b) ∧ NodeAt w b (i * 15) t a' t.args.length c' ∧ SepIn T w n' (.slice a' t.args.length c') t.args ∧
      (∀ w2, Wr T w w2 → w2.there b (i * 15) 15) ∧
      ∀ w2 (t' : NodeT) (av2 : Value), Wr T w w2 → SepIn T w2 n' av2 t'.args → SepIn S (w2.setCells b (i * 15) (nodeC t' av2)) n (.slice a m cap) (l.set i t') ∧ Wr S w (w2.setCells b (i * 15) (nodeC t' av2)) := by
  have hil := (List.getElem?_eq_some_iff.1 ht).1
  cases n with
  | zero => obtain ⟨rfl, _⟩ := h; simp at ht
  | succ n =>
    obtain ⟨_, _, e, h1, h2, h3⟩ := h
    cases e
    obtain ⟨b, cur, K, T, rfl, hb, hr, hK, hcK, hT, hD, hc⟩ := h3 (by omega)
    obtain ⟨av', q1, q2⟩ := hc i t ht
    obtain ⟨a', c', rfl, _⟩ := q2.own.shape
    have hlt : b < w.heap.size := (Array.getElem?_eq_some_iff.1 hr).1
    have hnb : ¬ T i b := fun e => (hT i b e).2 rfl
    refine ⟨n, b, a', c', T i, rfl, rfl, hb, hlt, fun c hc => hT i c hc, NodeAt.of q1, q2, fun w2 hw2 => row_thereN ((hw2.block b hlt hnb).trans hr) hK (by omega), fun w2 t' av2 hw2 hs2 => ?_⟩
    have hr2 := (hw2.block b hlt hnb).trans hr
    have ht2 := row_thereN hr2 hK (k := i) (by omega)
    obtain ⟨cur', hr3, hs3⟩ := setCells_rowC b (nodeC t' av2) (i * 15) w2 cur hr2
    refine ⟨⟨_, cap, by rw [List.length_set], by rw [List.length_set]; exact h1, h2, fun _ => ⟨b, cur', K, T, rfl, hb, hr3, hs3.trans hK, hcK, hT, hD, fun k u hu => ?_⟩⟩, (hw2.weak fun c hc => (hT i c hc).1).trans (Wr.set _ hb)⟩
    by_cases e : k = i
    · subst e
      rw [List.getElem?_set_self hil] at hu
      cases hu
      exact ⟨av2, World.rangeAt_setCells_same w2 b (k * 15) _ ht2, hs2.keep (fun c hc _ => setCells_far b _ _ w2 c (hT k c hc).2)⟩
    · rw [List.getElem?_set_ne (fun e' => e e'.symm)] at hu
      obtain ⟨av3, p1, p2⟩ := hc k u hu
      have p1' : ∀ i v, (nodeC u av3)[i]? = some v → w2.cell? ⟨b, k * 15 + i, none⟩ = some v := fun j v hv => (World.cell?_of_block (w := w) (a := ⟨b, k * 15 + j, none⟩) (hw2.block b hlt hnb)).trans (p1 j v hv)
      refine ⟨av3, fun j v hv => World.rangeAt_setCells_apart (b' := b) (o' := k * 15) (cs := nodeC u av3) p1' b (i * 15) _ ?_ j v hv, p2.keep (fun c hc hlc => (setCells_far b _ _ w2 c (hT k c hc).2).trans (hw2.block c hlc fun q => hD k i c e hc q))⟩
      right; rw [leaf_len, leaf_len]; omega
end Go.Proofs.YtdoeejhdenifpaaGreatDoor
