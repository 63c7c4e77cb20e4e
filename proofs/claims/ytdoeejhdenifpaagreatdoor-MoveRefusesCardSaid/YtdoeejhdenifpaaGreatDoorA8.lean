import Derived.Test.YtdoeejhdenifpaaGreatDoorZ1
import Derived.Test.YtdoeejhdenifpaaGreatDoorA5
import Derived.Test.YtdoeejhdenifpaaGreatDoorA2
import Derived.Deep.RegionHeld3
namespace Go.Proofs.YtdoeejhdenifpaaGreatDoor
open Go.RowKit Go.Sort
def fullB (M : GM) (a : Ad) : Bool := !(lkM a M).isSome && decide (4096 ≤ M.length)
def putCode (M : GM) (a : Ad) (c : ContT) : Int := if gvalidB c = false then 1 else if validB a.1 a.2 = false then 20 else if (c.kind == 0) = true then 0 else if fullB M a = true then 41 else 0
def putTo (M : GM) (a : Ad) (c : ContT) (x : Option Addr) : GM := if gvalidB c = false then M else if validB a.1 a.2 = false then M else if (c.kind == 0) = true then delM a M else if fullB M a = true then M else setM a (copyC c, x) M
def PutR (w : World) (gb mb : Nat) (M : GM) (a : Ad) (c : ContT) (e : Ending) (w' : World) : Prop := ∃ x, e = .returned (.int .i64 (putCode M a c)) ∧ GridIs w' gb mb (putTo M a c x) ∧ w.grownBy w' (some mb)
mutual
theorem smallT_copy : ∀ t, smallT t → smallT (copyT t)
 | .mk k op x s b f r q args, h => by simp only [copyT, smallT] at h ⊢; exact ⟨by rw [copyL_map]; simpa using h.1, smallL_copy args h.2⟩
theorem smallL_copy : ∀ l, smallL l → smallL (copyL l)
 | [], h => h
 | t :: l, h => by simp only [copyL, smallL] at h ⊢; exact ⟨smallT_copy t h.1, smallL_copy l h.2⟩
end
structure PutW (w w3 : World) (gb mb : Nat) (E : List (Ad × Value)) (a : Ad) (c : ContT) (ca : Option Addr) (cap : Nat) : Prop where
 xt : Xt w w3
 at_ : w3.heap[w.heap.size]? = some (.cells #[.int .i64 a.1, .int .i64 a.2] 24 (0, 0))
 con : w3.heap[w.heap.size + 1]? = some (.cells #[.int .i64 c.kind, .int .i64 c.v.kind, .float .f64 c.v.x, .string c.v.s, .bool c.v.b, .int .i64 c.v.f, .int .i64 c.t.kind, .int .i64 c.t.op, .float .f64 c.t.x, .string c.t.s, .bool c.t.b, .int .i64 c.t.f, .int .i64 c.t.ref.a.1, .int .i64 c.t.ref.a.2, .bool c.t.ref.cf, .bool c.t.ref.rf, .int .i64 c.t.to.a.1, .int .i64 c.t.to.a.2, .bool c.t.to.cf, .bool c.t.to.rf, .slice ca c.t.args.length cap] 51 (0, 0))
 cell : w3.cell? ⟨gb, 0, none⟩ = some (.map (some mb))
 map : MapIs w3 mb E
theorem PutW.step {w w3 w4 : World} {gb mb : Nat} {E : List (Ad × Value)} {a : Ad} {c : ContT} {ca : Option Addr} {cap : Nat} (h : PutW w w3 gb mb E a c ca cap) (hx : Xt w3 w4) : PutW w w4 gb mb E a c ca cap :=
 ⟨h.xt.trans hx, (hx.block _ (Array.getElem?_eq_some_iff.1 h.at_).1).trans h.at_, (hx.block _ (Array.getElem?_eq_some_iff.1 h.con).1).trans h.con, hx.cellsIn _ _ _ h.cell, h.map.of_heap (hx.block mb h.map.lt)⟩
theorem PutW.ad {w w3 : World} {gb mb : Nat} {E : List (Ad × Value)} {a : Ad} {c : ContT} {ca : Option Addr} {cap : Nat} (h : PutW w w3 gb mb E a c ca cap) : w3.cell? ⟨w.heap.size, 0, none⟩ = some (.int .i64 a.1) ∧ w3.cell? ⟨w.heap.size, 1, none⟩ = some (.int .i64 a.2) := by
 have := h.at_
 constructor <;> simp [World.cell?, this]
theorem PutW.kind {w w3 : World} {gb mb : Nat} {E : List (Ad × Value)} {a : Ad} {c : ContT} {ca : Option Addr} {cap : Nat} (h : PutW w w3 gb mb E a c ca cap) : w3.cell? ⟨w.heap.size + 1, 0, none⟩ = some (.int .i64 c.kind) := by
 have := h.con
 simp [World.cell?, this]
theorem put_start {w : World} {gb mb : Nat} {M : GM} (h : GridIs w gb mb M) (a : Ad) (c : ContT) (ca : Option Addr) (cap : Nat) : ∃ E, (∀ a, lk a E = (lkM a M).map ceV) ∧ ∃ w1, (w.alloc (.cells #[.int .i64 a.1, .int .i64 a.2] 24)).alloc (.cells #[.int .i64 c.kind, .int .i64 c.v.kind, .float .f64 c.v.x, .string c.v.s, .bool c.v.b, .int .i64 c.v.f, .int .i64 c.t.kind, .int .i64 c.t.op, .float .f64 c.t.x, .string c.t.s, .bool c.t.b, .int .i64 c.t.f, .int .i64 c.t.ref.a.1, .int .i64 c.t.ref.a.2, .bool c.t.ref.cf, .bool c.t.ref.rf, .int .i64 c.t.to.a.1, .int .i64 c.t.to.a.2, .bool c.t.to.cf, .bool c.t.to.rf, .slice ca c.t.args.length cap] 51) = w1 ∧ PutW w w1 gb mb E a c ca cap := by
 obtain ⟨E, hm, he⟩ := h.map
 refine ⟨E, he, _, rfl, ?_⟩
 have hx : Xt w ((w.alloc (.cells #[.int .i64 a.1, .int .i64 a.2] 24)).alloc (.cells #[.int .i64 c.kind, .int .i64 c.v.kind, .float .f64 c.v.x, .string c.v.s, .bool c.v.b, .int .i64 c.v.f, .int .i64 c.t.kind, .int .i64 c.t.op, .float .f64 c.t.x, .string c.t.s, .bool c.t.b, .int .i64 c.t.f, .int .i64 c.t.ref.a.1, .int .i64 c.t.ref.a.2, .bool c.t.ref.cf, .bool c.t.ref.rf, .int .i64 c.t.to.a.1, .int .i64 c.t.to.a.2, .bool c.t.to.cf, .bool c.t.to.rf, .slice ca c.t.args.length cap] 51)) := ((Xt.refl w).alloc _).alloc _
 refine ⟨hx, ?_, ?_, hx.cellsIn _ _ _ h.cell, hm.of_heap (hx.block mb hm.lt)⟩
 · exact (Below.heap_alloc _ _ _ (by simp)).trans (MapKept.heap_alloc w _).1
 · have := (MapKept.heap_alloc (w.alloc (.cells #[.int .i64 a.1, .int .i64 a.2] 24)) (.cells #[.int .i64 c.kind, .int .i64 c.v.kind, .float .f64 c.v.x, .string c.v.s, .bool c.v.b, .int .i64 c.v.f, .int .i64 c.t.kind, .int .i64 c.t.op, .float .f64 c.t.x, .string c.t.s, .bool c.t.b, .int .i64 c.t.f, .int .i64 c.t.ref.a.1, .int .i64 c.t.ref.a.2, .bool c.t.ref.cf, .bool c.t.ref.rf, .int .i64 c.t.to.a.1, .int .i64 c.t.to.a.2, .bool c.t.to.cf, .bool c.t.to.rf, .slice ca c.t.args.length cap] 51)).1
   simpa using this
set_option maxRecDepth 100000 in
set_option maxHeartbeats 4000000 in
theorem gput_inv (n : Nat) (gb mb : Nat) (M : GM) (a : Ad) (c : ContT) (ca : Option Addr) (cap : Nat) (w : World) (h : GridIs w gb mb M) (hok : c.ok) (hT : Tabs w) (hsm : smallT c.t) (hin : ArgsIn w n (.slice ca c.t.args.length cap) c.t.args) (hb : gvalidB c = false) : Calls Tryz.prog 25 #[.pointer (some ⟨gb, 0, none⟩), .agg #[.int .i64 a.1, .int .i64 a.2], contV c ca c.t.args.length cap] w fun e w' => e = .returned (.int .i64 1) ∧ Xt w w' := by
 have H := Lib.hid h
 obtain ⟨E, he, w1, hw1, hP1⟩ := put_start h a c ca cap
 have HE := Lib.hid he
 have HP1 := Lib.hid hP1
 have HLM : Hid (E.length = M.length) := Lib.hid ((H.out.xt hP1.xt).len hP1.map he)
 have HIN := Lib.hid hin
 have HSM := Lib.hid hsm
 have HV := Lib.hid (gvalid_any n c ca cap w1 hok (hT.xt hP1.xt) (hin.xt hP1.xt))
 clear h he hP1 hin hsm hok hT
 have HB := Lib.hid hb
 clear hb
 go_enter Tryz.func25, Tryz.ntmps25
 go_wp2_with (first
  | (refine HV.out.mono ?_; rintro e w2 ⟨rfl, hx2⟩; rw [HB.out]; have HP2 := Lib.hid (HP1.out.step hx2); have hc2 := HP2.out.cell; obtain ⟨d0, d1⟩ := HP2.out.ad;  clear hx2)
  | (refine BigFrame.wpList_want (by rfl) (fun K hK => wp_load_row 51 _ rfl (w.heap.size + 1) rfl 51 _ (0, 0) _ HP1.out.con Tryz.underlying51 rfl (by kernel_rfl) (hK _ _ ?_)); clear hK K))
 go_ret
 exact ⟨rfl, HP2.out.xt⟩
set_option maxRecDepth 100000 in
set_option maxHeartbeats 4000000 in
theorem gput_ad (n : Nat) (gb mb : Nat) (M : GM) (a : Ad) (c : ContT) (ca : Option Addr) (cap : Nat) (w : World) (h : GridIs w gb mb M) (hok : c.ok) (hT : Tabs w) (hsm : smallT c.t) (hin : ArgsIn w n (.slice ca c.t.args.length cap) c.t.args) (hb : gvalidB c = true) (hb2 : validB a.1 a.2 = false) : Calls Tryz.prog 25 #[.pointer (some ⟨gb, 0, none⟩), .agg #[.int .i64 a.1, .int .i64 a.2], contV c ca c.t.args.length cap] w fun e w' => e = .returned (.int .i64 20) ∧ Xt w w' := by
 have H := Lib.hid h
 obtain ⟨E, he, w1, hw1, hP1⟩ := put_start h a c ca cap
 have HE := Lib.hid he
 have HP1 := Lib.hid hP1
 have HLM : Hid (E.length = M.length) := Lib.hid ((H.out.xt hP1.xt).len hP1.map he)
 have HIN := Lib.hid hin
 have HSM := Lib.hid hsm
 have HV := Lib.hid (gvalid_any n c ca cap w1 hok (hT.xt hP1.xt) (hin.xt hP1.xt))
 clear h he hP1 hin hsm hok hT
 have HB := Lib.hid hb
 have HB2 := Lib.hid hb2
 clear hb hb2
 go_enter Tryz.func25, Tryz.ntmps25
 go_wp2_with (first
  | (refine HV.out.mono ?_; rintro e w2 ⟨rfl, hx2⟩; rw [HB.out]; have HP2 := Lib.hid (HP1.out.step hx2); have hc2 := HP2.out.cell; obtain ⟨d0, d1⟩ := HP2.out.ad;  clear hx2)
  | (refine (valid_gr a.1 a.2 w2).mono ?_; rintro e w3 ⟨rfl, hg3⟩; rw [HB2.out]; have HP3 := Lib.hid (HP2.out.step hg3.xt); have hc3 := HP3.out.cell; obtain ⟨p0, p1⟩ := HP3.out.ad; have k3 := HP3.out.kind; clear hg3)
  | (refine BigFrame.wpList_want (by rfl) (fun K hK => wp_load_row 51 _ rfl (w.heap.size + 1) rfl 51 _ (0, 0) _ HP1.out.con Tryz.underlying51 rfl (by kernel_rfl) (hK _ _ ?_)); clear hK K))
 go_ret
 exact ⟨rfl, HP3.out.xt⟩
set_option maxRecDepth 100000 in
set_option maxHeartbeats 4000000 in
theorem gput_del (n : Nat) (gb mb : Nat) (M : GM) (a : Ad) (c : ContT) (ca : Option Addr) (cap : Nat) (w : World) (h : GridIs w gb mb M) (hok : c.ok) (hT : Tabs w) (hsm : smallT c.t) (hin : ArgsIn w n (.slice ca c.t.args.length cap) c.t.args) (hb : gvalidB c = true) (hb2 : validB a.1 a.2 = true) (hk : (c.kind == 0) = true) : Calls Tryz.prog 25 #[.pointer (some ⟨gb, 0, none⟩), .agg #[.int .i64 a.1, .int .i64 a.2], contV c ca c.t.args.length cap] w fun e w' => e = .returned (.int .i64 0) ∧ GridIs w' gb mb (delM a M) ∧ w.grownBy w' (some mb) := by
 have H := Lib.hid h
 obtain ⟨E, he, w1, hw1, hP1⟩ := put_start h a c ca cap
 have HE := Lib.hid he
 have HP1 := Lib.hid hP1
 have HLM : Hid (E.length = M.length) := Lib.hid ((H.out.xt hP1.xt).len hP1.map he)
 have HIN := Lib.hid hin
 have HSM := Lib.hid hsm
 have HV := Lib.hid (gvalid_any n c ca cap w1 hok (hT.xt hP1.xt) (hin.xt hP1.xt))
 clear h he hP1 hin hsm hok hT
 have HB := Lib.hid hb
 have HB2 := Lib.hid hb2
 clear hb hb2
 go_enter Tryz.func25, Tryz.ntmps25
 go_wp2_with (first
  | (refine HV.out.mono ?_; rintro e w2 ⟨rfl, hx2⟩; rw [HB.out]; have HP2 := Lib.hid (HP1.out.step hx2); have hc2 := HP2.out.cell; obtain ⟨d0, d1⟩ := HP2.out.ad;  clear hx2)
  | (refine (valid_gr a.1 a.2 w2).mono ?_; rintro e w3 ⟨rfl, hg3⟩; rw [HB2.out]; have HP3 := Lib.hid (HP2.out.step hg3.xt); have hc3 := HP3.out.cell; obtain ⟨p0, p1⟩ := HP3.out.ad; have k3 := HP3.out.kind; clear hg3)
  | (refine BigFrame.wpList_want (by rfl) (fun K hK => wp_load_row 51 _ rfl (w.heap.size + 1) rfl 51 _ (0, 0) _ HP1.out.con Tryz.underlying51 rfl (by kernel_rfl) (hK _ _ ?_)); clear hK K))
 refine wp_region_still_tail 5 (by kernel_rfl) (by kernel_rfl) ?_
 change wpStill _ _ (World.drew _) _ _ _
 simp only [List.take_succ_cons, List.take_zero, List.drop_succ_cons, List.drop_zero]
 still_step
 still_step
 still_step
 still_step
 still_step
 refine wpStill_nil ?_
 change wpList _ _ _ _ _ (World.drew _)
 refine wpList_delete_it _ rfl _ _ 100 24 24 51 rfl adrKey Tryz.underlying100 mb E rfl a.1 a.2 rfl (by exact HP3.out.map) ?_
 intro w4 hm4 hg4 hs4
 have HM4 := Lib.hid hm4
 have HG4 := Lib.hid hg4
 clear hm4 hg4
 go_wp2_with fail
 go_ret
 have hg4' : w3.grownBy w4 (some mb) := ⟨HG4.out.os, HG4.out.tape, HG4.out.output, HG4.out.size, HG4.out.block⟩
 refine ⟨rfl, H.out.del (HP3.out.xt.cellsIn.trans (CellsIn.of_grown HP3.out.map hg4')) HE.out rfl HM4.out, ?_⟩
 have hx := HP3.out.xt
 exact ⟨hg4'.os.trans hx.os, hg4'.tape.trans hx.tape, hg4'.output.trans hx.output, Nat.le_trans hx.size hg4'.size, fun k hk hne => (hg4'.block k (Nat.lt_of_lt_of_le hk hx.size) hne).trans (hx.block k hk)⟩
end Go.Proofs.YtdoeejhdenifpaaGreatDoor
/- What a copy has is valid as what it was copied from. -/
namespace Go.Proofs.YtdoeejhdenifpaaGreatDoor
open Go.RowKit Go.Sort
theorem nan_nan : (FloatKind.format .f64).order 9221120237041090560 9221120237041090560 != some .eq := by decide +kernel
theorem one_cases (x : Nat) : oneX x = x ∨ (oneX x = 9221120237041090560 ∧ ((FloatKind.format .f64).order x x != some .eq) = true) := by
 unfold oneX
 cases h : ((FloatKind.format .f64).order x x != some .eq)
 · exact Or.inl rfl
 · exact Or.inr ⟨rfl, rfl⟩
theorem oneX_idem (x : Nat) : oneX (oneX x) = oneX x := by
 rcases one_cases x with h | ⟨h, _⟩
 · rw [h, h]
 · rw [h]; unfold oneX; rw [if_pos nan_nan]
theorem classX_one (x : Nat) : classX (oneX x) = classX x := by
 rcases one_cases x with h | ⟨h, h2⟩
 · rw [h]
 · rw [h]
   have e1 : classX 9221120237041090560 = 1 := by unfold classX ordX; rw [if_pos nan_nan]
   have e2 : classX x = 1 := by unfold classX ordX; rw [if_pos h2]
   rw [e1, e2]
theorem beq_of_bne {a : Option Ordering} (h : (a != some .eq) = true) : (a == some .eq) = false := by
 cases a with
 | none => rfl
 | some o => cases o <;> first | rfl | (exact absurd h (by decide))
theorem negX_one (x : Nat) : negX (oneX x) = negX x := by
 rcases one_cases x with h | ⟨h, h2⟩
 · rw [h]
 · rw [h]; unfold negX; rw [beq_of_bne h2, beq_of_bne nan_nan, Bool.false_and, Bool.false_and]
theorem zero_zero : ((FloatKind.format .f64).order 0 0 != some .eq) = false := by decide +kernel
theorem oneX_zero (x : Nat) : oneX x = 0 ↔ x = 0 := by
 rcases one_cases x with h | ⟨h, h2⟩
 · rw [h]
 · rw [h]
   constructor
   · intro e; exact absurd e (by decide)
   · rintro rfl; rw [zero_zero] at h2; cases h2
mutual
theorem copyT_idem : ∀ t : NodeT, copyT (copyT t) = copyT t
 | .mk k op x s b f r q args => by simp only [copyT, oneX_idem, copyL_idem args]
theorem copyL_idem : ∀ l : List NodeT, copyL (copyL l) = copyL l
 | [] => rfl
 | t :: r => by simp only [copyL, copyT_idem t, copyL_idem r]
end
theorem copyL_len (l : List NodeT) : (copyL l).length = l.length := by rw [copyL_map]; simp
mutual
theorem measT_copy : ∀ t : NodeT, measT (copyT t) = measT t
 | .mk k op x s b f r q args => by simp only [copyT, measT, measL_copy args]
theorem measL_copy : ∀ (l : List NodeT) (n d : Int), measL (copyL l) n d = measL l n d
 | [], n, d => rfl
 | t :: r, n, d => by simp only [copyL, measL, measT_copy t, measL_copy r]
end
theorem alike_iff (t u : NodeT) : alikeB t u = true ↔ t.kind = u.kind ∧ t.op = u.op ∧ ((oneX t.x : Nat) : Int) = ((oneX u.x : Nat) : Int) ∧ t.s.toList = u.s.toList ∧ t.b = u.b ∧ t.f = u.f ∧ refB t.ref u.ref = true ∧ refB t.to u.to = true := by
 unfold alikeB
 simp only [Bool.and_eq_true, decide_eq_true_eq, and_assoc]
theorem alikeB_x (k op : Int) (x y : Nat) (s : ByteArray) (b : Bool) (f : Int) (r q : RefT) (args : List NodeT) (t : NodeT) (h : oneX x = oneX y) : alikeB t (.mk k op x s b f r q args) = alikeB t (.mk k op y s b f r q args) := by
 rw [Bool.eq_iff_iff, alike_iff, alike_iff]
 show (_ ∧ _ ∧ _ = ((oneX x : Nat) : Int) ∧ _) ↔ (_ ∧ _ ∧ _ = ((oneX y : Nat) : Int) ∧ _)
 rw [h]; exact Iff.rfl
theorem alikeB_l (k op : Int) (x y : Nat) (s : ByteArray) (b : Bool) (f : Int) (r q : RefT) (a1 a2 : List NodeT) (t : NodeT) (h : oneX x = oneX y) : alikeB (.mk k op x s b f r q a1) t = alikeB (.mk k op y s b f r q a2) t := by
 rw [Bool.eq_iff_iff, alike_iff, alike_iff]
 show (_ ∧ _ ∧ ((oneX x : Nat) : Int) = _ ∧ _) ↔ (_ ∧ _ ∧ ((oneX y : Nat) : Int) = _ ∧ _)
 rw [h]; exact Iff.rfl
theorem madeB_copy (t : NodeT) : madeB (copyT t) = madeB t := by
 obtain ⟨k, op, x, s, b, f, r, q, args⟩ := t
 have hl := fun u => alikeB_l k op (oneX x) x s b f r q (copyL args) args u (oneX_idem x)
 simp only [copyT, madeB, classX_one, negX_one, copyL_len, hl]
 rw [alikeB_x 1 0 (oneX x) x ⟨#[]⟩ false 0 zR zR [] _ (oneX_idem x)]
mutual
theorem faultT_copy : ∀ (t : NodeT) (i : Bool), faultT (copyT t) i = faultT t i
 | .mk k op x s b f r q args, i => by
  have hm := madeB_copy (.mk k op x s b f r q args)
  simp only [copyT] at hm ⊢
  rw [faultT, faultT, hm, faultL_copy args, copyL_len]
theorem faultL_copy : ∀ (l : List NodeT) (c : Bool), faultL (copyL l) c = faultL l c
 | [], c => rfl
 | t :: r, c => by rw [copyL, faultL, faultL, faultT_copy t, faultL_copy r]
end
theorem checkT_copy (t : NodeT) : checkT (copyT t) = checkT t := by unfold checkT; rw [measT_copy, faultT_copy]
theorem dec_one (x : Nat) : decide (((oneX x : Nat) : Int) = 0) = decide ((x : Int) = 0) := by
 have h := oneX_zero x
 rw [decide_eq_decide]; omega
theorem noNodeB_copy (t : NodeT) : noNodeB (copyT t) = noNodeB t := by
 unfold noNodeB
 rw [copyT_kind, copyT_op, copyT_x, copyT_s, copyT_b, copyT_f, copyT_ref, copyT_to, copyT_len, dec_one]
theorem noValB_copy (v : ValT) : noValB { v with x := oneX v.x } = noValB v := by unfold noValB; simp only [dec_one]
theorem vvalidB_copy (v : ValT) : vvalidB { v with x := oneX v.x } = vvalidB v := by unfold vvalidB restB; simp only [dec_one]
theorem gvalidB_copy (c : ContT) : gvalidB (copyC c) = gvalidB c := by
 unfold gvalidB copyC
 simp only [noValB_copy, noNodeB_copy, vvalidB_copy, checkT_copy]
theorem copyC_idem (c : ContT) : copyC (copyC c) = copyC c := by unfold copyC; simp only [oneX_idem, copyT_idem]
theorem oneX_lt {x : Nat} (h : x < 18446744073709551616) : oneX x < 18446744073709551616 := by unfold oneX; split <;> omega
mutual
theorem okT_copy : ∀ t : NodeT, t.ok → (copyT t).ok
 | .mk k op x s b f r q args, h => by simp only [copyT, NodeT.ok] at h ⊢; exact ⟨h.1, oneX_lt h.2.1, okL_copy args h.2.2⟩
theorem okL_copy : ∀ l : List NodeT, okL l → okL (copyL l)
 | [], h => h
 | t :: r, h => by simp only [copyL, okL] at h ⊢; exact ⟨okT_copy t h.1, okL_copy r h.2⟩
end
theorem okC_copy {c : ContT} (h : c.ok) : (copyC c).ok := ⟨h.1, okT_copy _ h.2.1, oneX_lt h.2.2⟩
end Go.Proofs.YtdoeejhdenifpaaGreatDoor
namespace Go.Proofs.YtdoeejhdenifpaaGreatDoor
open Go.RowKit Go.Sort
set_option maxRecDepth 100000 in
set_option maxHeartbeats 4000000 in
theorem gput_full (n : Nat) (gb mb : Nat) (M : GM) (a : Ad) (c : ContT) (ca : Option Addr) (cap : Nat) (w : World) (h : GridIs w gb mb M) (hok : c.ok) (hT : Tabs w) (hsm : smallT c.t) (hin : ArgsIn w n (.slice ca c.t.args.length cap) c.t.args) (hb : gvalidB c = true) (hb2 : validB a.1 a.2 = true) (hk : (c.kind == 0) = false) (his : (lkM a M).isSome = false) (hfu : fullB M a = true) : Calls Tryz.prog 25 #[.pointer (some ⟨gb, 0, none⟩), .agg #[.int .i64 a.1, .int .i64 a.2], contV c ca c.t.args.length cap] w fun e w' => e = .returned (.int .i64 41) ∧ Xt w w' := by
 have H := Lib.hid h
 obtain ⟨E, he, w1, hw1, hP1⟩ := put_start h a c ca cap
 have HE := Lib.hid he
 have HP1 := Lib.hid hP1
 have HLM : Hid (E.length = M.length) := Lib.hid ((H.out.xt hP1.xt).len hP1.map he)
 have HIN := Lib.hid hin
 have HSM := Lib.hid hsm
 have HV := Lib.hid (gvalid_any n c ca cap w1 hok (hT.xt hP1.xt) (hin.xt hP1.xt))
 clear h he hP1 hin hsm hok hT
 have HIS : Hid ((lk a E).isSome = false) := by have h0 := HE.out a; rw [h0, Option.isSome_map]; exact his
 obtain ⟨⟨X, xa⟩, hX⟩ : ∃ x, (lkM a M).getD (zeroC, none) = x := ⟨_, rfl⟩
 have HX : Hid ((lk a E).getD (contV zeroC none 0 0) = contV X xa X.t.args.length X.t.args.length) := by rw [HE.out]; revert hX; cases lkM a M <;> (intro hX; cases hX; rfl)
 have HLE : Hid (4096 ≤ M.length) := Lib.hid (by unfold fullB at hfu; rw [his] at hfu; simpa using hfu)
 clear hfu his hX
 have HB := Lib.hid hb
 have HB2 := Lib.hid hb2
 clear hb hb2
 go_enter Tryz.func25, Tryz.ntmps25
 go_wp2_with (first
  | (refine HV.out.mono ?_; rintro e w2 ⟨rfl, hx2⟩; rw [HB.out]; have HP2 := Lib.hid (HP1.out.step hx2); have hc2 := HP2.out.cell; obtain ⟨d0, d1⟩ := HP2.out.ad;  clear hx2)
  | (refine (valid_gr a.1 a.2 w2).mono ?_; rintro e w3 ⟨rfl, hg3⟩; rw [HB2.out]; have HP3 := Lib.hid (HP2.out.step hg3.xt); have hc3 := HP3.out.cell; obtain ⟨p0, p1⟩ := HP3.out.ad; have k3 := HP3.out.kind; clear hg3)
  | (refine BigFrame.wpList_want (by rfl) (fun K hK => wp_load_row 51 _ rfl (w.heap.size + 1) rfl 51 _ (0, 0) _ HP1.out.con Tryz.underlying51 rfl (by kernel_rfl) (hK _ _ ?_)); clear hK K))
 have HL : Hid (∀ w', MapIs w' mb E → (Instr.lookup 100 (.map (some mb)) (.agg #[.int .i64 a.1, .int .i64 a.2]) true).run Tryz.prog w' = .ok (.tuple #[contV X xa X.t.args.length X.t.args.length, .bool false]) w') := fun w' hm => by
  have := hm.lookup_ok (P := Tryz.prog) (t := 100) (k := 24) (e := 51) adrKey Tryz.underlying100 zeroCon a
  rw [HX.out, HIS.out] at this
  exact this
 have hS3 : w3.drew.cell? ⟨gb, 0, none⟩ = some (.map (some mb)) ∧ w3.drew.cell? ⟨w.heap.size, 0, none⟩ = some (.int .i64 a.1) ∧ w3.drew.cell? ⟨w.heap.size, 1, none⟩ = some (.int .i64 a.2) ∧ MapIs w3.drew mb E := ⟨hc3, p0, p1, HP3.out.map⟩
 refine wp_region_held_drew (S := fun w' => w'.cell? ⟨gb, 0, none⟩ = some (.map (some mb)) ∧ w'.cell? ⟨w.heap.size, 0, none⟩ = some (.int .i64 a.1) ∧ w'.cell? ⟨w.heap.size, 1, none⟩ = some (.int .i64 a.2) ∧ MapIs w' mb E) (by kernel_rfl) hS3 (fun hHeld => ?_)
 refine tkH 0 ?_ ?_ ?_
 rotate_left
 · intro w hSw; (try dsimp only at hSw); obtain ⟨s0, s1, s2, s3⟩ := hSw; go_simp; first | done | with_reducible rfl
 try simp only [Act.put, nm]
 refine tkH 1 ?_ ?_ ?_
 rotate_left
 · intro w hSw; (try dsimp only at hSw); obtain ⟨s0, s1, s2, s3⟩ := hSw; go_simp; first | done | with_reducible rfl
 try simp only [Act.put, nm]
 refine tkH 2 ?_ ?_ ?_
 rotate_left
 · intro w hSw; (try dsimp only at hSw); obtain ⟨s0, s1, s2, s3⟩ := hSw; go_simp; first | done | with_reducible rfl
 try simp only [Act.put, nm]
 refine tkH 3 ?_ ?_ ?_
 rotate_left
 · intro w hSw; (try dsimp only at hSw); obtain ⟨s0, s1, s2, s3⟩ := hSw; go_simp; first | done | with_reducible rfl
 try simp only [Act.put, nm]
 refine tkH 4 ?_ ?_ ?_
 rotate_left
 · intro w hSw; (try dsimp only at hSw); obtain ⟨s0, s1, s2, s3⟩ := hSw; go_simp; first | done | with_reducible rfl
 try simp only [Act.put, nm]
 refine tkH 5 ?_ ?_ ?_
 rotate_left
 · intro w hSw; (try dsimp only at hSw); obtain ⟨s0, s1, s2, s3⟩ := hSw; have hl := HL.out _ s3; go_simp; first | done | with_reducible rfl
 try simp only [Act.put, nm]
 refine tkH 6 ?_ ?_ ?_
 rotate_left
 · intro w hSw; (try dsimp only at hSw); go_simp; first | done | with_reducible rfl
 try simp only [Act.put, nm]
 refine tkH 7 ?_ ?_ ?_
 rotate_left
 · intro w hSw; (try dsimp only at hSw); go_simp; first | done | with_reducible rfl
 try simp only [Act.put, nm]
 refine tkH 8 ?_ ?_ ?_
 rotate_left
 · intro w hSw; (try dsimp only at hSw); go_simp; first | done | with_reducible rfl
 try simp only [Act.put, nm]
 refine rdH 9 (fun K hK => ?_)
 go_simp
 obtain ⟨wD, hwD⟩ : ∃ wD, (w3.alloc (.cells #[.int .i64 0, .int .i64 0, .float .f64 0, .string ⟨#[]⟩, .bool false, .int .i64 0, .int .i64 0, .int .i64 0, .float .f64 0, .string ⟨#[]⟩, .bool false, .int .i64 0, .int .i64 0, .int .i64 0, .bool false, .bool false, .int .i64 0, .int .i64 0, .bool false, .bool false, .slice none 0 0] 51)).drew = wD := ⟨_, rfl⟩
 have hxD : Xt w3 wD := by rw [← hwD]; exact ((Xt.refl w3).alloc _).drew
 have hrD : wD.heap[w3.heap.size]? = some (.cells #[.int .i64 0, .int .i64 0, .float .f64 0, .string ⟨#[]⟩, .bool false, .int .i64 0, .int .i64 0, .int .i64 0, .float .f64 0, .string ⟨#[]⟩, .bool false, .int .i64 0, .int .i64 0, .int .i64 0, .bool false, .bool false, .int .i64 0, .int .i64 0, .bool false, .bool false, .slice none 0 0] 51 (0, 0)) := by rw [← hwD]; exact (MapKept.heap_alloc w3 _).1
 have HPD := Lib.hid (HP3.out.step hxD)
 rw [hwD]
 refine hK.out _ _ ⟨HPD.out.cell, HPD.out.ad.1, HPD.out.ad.2, HPD.out.map⟩ (fun hHeld2 => ?_)
 clear hK K
 try simp only [Act.put, nm]
 refine rdH 10 (fun K hK => ?_)
 rw [if_pos (by rfl)]
 obtain ⟨w4, hw4⟩ : ∃ w4, wD.setRow w3.heap.size (contV X xa X.t.args.length X.t.args.length).cells = w4 := ⟨_, rfl⟩
 have hx4 : Xt w3 w4 := by rw [← hw4]; exact hxD.grownB (setRow_grown _ _ _) (fun m hm => by cases hm; exact Nat.le_refl _)
 refine wp_store_row 51 _ _ rfl w3.heap.size (contV X xa X.t.args.length X.t.args.length).cells rfl rfl 51 _ hrD (by kernel_rfl) rfl (by simp [Value.oneCell', Value.cells]) ?_
 rw [hw4]
 have HP4 := Lib.hid (HP3.out.step hx4)
 refine hK.out _ _ ⟨HP4.out.cell, HP4.out.ad.1, HP4.out.ad.2, HP4.out.map⟩ (fun hHeld3 => ?_)
 clear hK K
 try simp only [Act.put, List.getElem_toArray, List.getElem_cons_zero, List.getElem_cons_succ]
 refine tkH 11 ?_ ?_ ?_
 rotate_left
 · intro w hSw; (try dsimp only at hSw); go_simp; first | done | with_reducible rfl
 try simp only [Act.put, nm]
 refine wpAnyH_done (by kernel_rfl) ?_ _
 have hc4 := HP4.out.cell
 have hlen : ∀ ty, (Builtin.len_ #[100] ty #[.map (some mb)]).run Tryz.prog w4 = .ok (.int .i64 M.length) w4 := fun ty => by rw [← HLM.out]; exact HP4.out.map.len Tryz.underlying100
 have hge : (4096 : Int) ≤ (M.length : Int) := by have := HLE.out; omega
 go_wp2_with fail
 go_ret
 exact ⟨rfl, HP4.out.xt⟩
end Go.Proofs.YtdoeejhdenifpaaGreatDoor
namespace Go.Proofs.YtdoeejhdenifpaaGreatDoor
open Go.RowKit Go.Sort
theorem ceV_copy (c : ContT) (x : Option Addr) : ceV (copyC c, x) = copyCV c x := by
 show contV (copyC c) x (copyT c.t).args.length (copyT c.t).args.length = _
 rw [copyT_len]
theorem range_row {w : World} {b : Nat} {cs : List Value} {T : TypeId} {fz : Nat × Nat} (h : w.heap[b]? = some (.cells cs.toArray T fz)) : w.rangeAt b 0 cs := fun j v hv => by
 simp [World.cell?, h, hv]
set_option maxRecDepth 100000 in
set_option maxHeartbeats 4000000 in
theorem gput_old (n : Nat) (gb mb : Nat) (M : GM) (a : Ad) (c : ContT) (ca : Option Addr) (cap : Nat) (w : World) (h : GridIs w gb mb M) (hok : c.ok) (hT : Tabs w) (hsm : smallT c.t) (hin : ArgsIn w n (.slice ca c.t.args.length cap) c.t.args) (hb : gvalidB c = true) (hb2 : validB a.1 a.2 = true) (hk : (c.kind == 0) = false) (his : (lkM a M).isSome = true) : Calls Tryz.prog 25 #[.pointer (some ⟨gb, 0, none⟩), .agg #[.int .i64 a.1, .int .i64 a.2], contV c ca c.t.args.length cap] w fun e w' => ∃ x, e = .returned (.int .i64 0) ∧ GridIs w' gb mb (setM a (copyC c, x) M) ∧ w.grownBy w' (some mb) := by
 have H := Lib.hid h
 obtain ⟨E, he, w1, hw1, hP1⟩ := put_start h a c ca cap
 have HE := Lib.hid he
 have HP1 := Lib.hid hP1
 have HLM : Hid (E.length = M.length) := Lib.hid ((H.out.xt hP1.xt).len hP1.map he)
 have HIN := Lib.hid hin
 have HSM := Lib.hid hsm
 have HV := Lib.hid (gvalid_any n c ca cap w1 hok (hT.xt hP1.xt) (hin.xt hP1.xt))
 clear h he hP1 hin hsm hok hT
 have HIS : Hid ((lk a E).isSome = true) := by have h0 := HE.out a; rw [h0, Option.isSome_map]; exact his
 obtain ⟨⟨X, xa⟩, hX⟩ : ∃ x, (lkM a M).getD (zeroC, none) = x := ⟨_, rfl⟩
 have HX : Hid ((lk a E).getD (contV zeroC none 0 0) = contV X xa X.t.args.length X.t.args.length) := by rw [HE.out]; revert hX; cases lkM a M <;> (intro hX; cases hX; rfl)
 have HLS : Hid (∀ x, (setM a (copyC c, x) M).length ≤ 4096) := Lib.hid (fun x => by rw [len_setM H.out.sorted his]; exact H.out.many)
 clear his hX
 have HB := Lib.hid hb
 have HB2 := Lib.hid hb2
 clear hb hb2
 go_enter Tryz.func25, Tryz.ntmps25
 go_wp2_with (first
  | (refine HV.out.mono ?_; rintro e w2 ⟨rfl, hx2⟩; rw [HB.out]; have HP2 := Lib.hid (HP1.out.step hx2); have hc2 := HP2.out.cell; obtain ⟨d0, d1⟩ := HP2.out.ad;  clear hx2)
  | (refine (valid_gr a.1 a.2 w2).mono ?_; rintro e w3 ⟨rfl, hg3⟩; rw [HB2.out]; have HP3 := Lib.hid (HP2.out.step hg3.xt); have hc3 := HP3.out.cell; obtain ⟨p0, p1⟩ := HP3.out.ad; have k3 := HP3.out.kind; clear hg3)
  | (refine BigFrame.wpList_want (by rfl) (fun K hK => wp_load_row 51 _ rfl (w.heap.size + 1) rfl 51 _ (0, 0) _ HP1.out.con Tryz.underlying51 rfl (by kernel_rfl) (hK _ _ ?_)); clear hK K))
 have HL : Hid (∀ w', MapIs w' mb E → (Instr.lookup 100 (.map (some mb)) (.agg #[.int .i64 a.1, .int .i64 a.2]) true).run Tryz.prog w' = .ok (.tuple #[contV X xa X.t.args.length X.t.args.length, .bool true]) w') := fun w' hm => by
  have := hm.lookup_ok (P := Tryz.prog) (t := 100) (k := 24) (e := 51) adrKey Tryz.underlying100 zeroCon a
  rw [HX.out, HIS.out] at this
  exact this
 have hS3 : w3.drew.cell? ⟨gb, 0, none⟩ = some (.map (some mb)) ∧ w3.drew.cell? ⟨w.heap.size, 0, none⟩ = some (.int .i64 a.1) ∧ w3.drew.cell? ⟨w.heap.size, 1, none⟩ = some (.int .i64 a.2) ∧ MapIs w3.drew mb E := ⟨hc3, p0, p1, HP3.out.map⟩
 refine wp_region_held_drew (S := fun w' => w'.cell? ⟨gb, 0, none⟩ = some (.map (some mb)) ∧ w'.cell? ⟨w.heap.size, 0, none⟩ = some (.int .i64 a.1) ∧ w'.cell? ⟨w.heap.size, 1, none⟩ = some (.int .i64 a.2) ∧ MapIs w' mb E) (by kernel_rfl) hS3 (fun hHeld => ?_)
 refine tkH 0 ?_ ?_ ?_
 rotate_left
 · intro w hSw; (try dsimp only at hSw); obtain ⟨s0, s1, s2, s3⟩ := hSw; go_simp; first | done | with_reducible rfl
 try simp only [Act.put, nm]
 refine tkH 1 ?_ ?_ ?_
 rotate_left
 · intro w hSw; (try dsimp only at hSw); obtain ⟨s0, s1, s2, s3⟩ := hSw; go_simp; first | done | with_reducible rfl
 try simp only [Act.put, nm]
 refine tkH 2 ?_ ?_ ?_
 rotate_left
 · intro w hSw; (try dsimp only at hSw); obtain ⟨s0, s1, s2, s3⟩ := hSw; go_simp; first | done | with_reducible rfl
 try simp only [Act.put, nm]
 refine tkH 3 ?_ ?_ ?_
 rotate_left
 · intro w hSw; (try dsimp only at hSw); obtain ⟨s0, s1, s2, s3⟩ := hSw; go_simp; first | done | with_reducible rfl
 try simp only [Act.put, nm]
 refine tkH 4 ?_ ?_ ?_
 rotate_left
 · intro w hSw; (try dsimp only at hSw); obtain ⟨s0, s1, s2, s3⟩ := hSw; go_simp; first | done | with_reducible rfl
 try simp only [Act.put, nm]
 refine tkH 5 ?_ ?_ ?_
 rotate_left
 · intro w hSw; (try dsimp only at hSw); obtain ⟨s0, s1, s2, s3⟩ := hSw; have hl := HL.out _ s3; go_simp; first | done | with_reducible rfl
 try simp only [Act.put, nm]
 refine tkH 6 ?_ ?_ ?_
 rotate_left
 · intro w hSw; (try dsimp only at hSw); go_simp; first | done | with_reducible rfl
 try simp only [Act.put, nm]
 refine tkH 7 ?_ ?_ ?_
 rotate_left
 · intro w hSw; (try dsimp only at hSw); go_simp; first | done | with_reducible rfl
 try simp only [Act.put, nm]
 refine tkH 8 ?_ ?_ ?_
 rotate_left
 · intro w hSw; (try dsimp only at hSw); go_simp; first | done | with_reducible rfl
 try simp only [Act.put, nm]
 refine rdH 9 (fun K hK => ?_)
 go_simp
 obtain ⟨wD, hwD⟩ : ∃ wD, (w3.alloc (.cells #[.int .i64 0, .int .i64 0, .float .f64 0, .string ⟨#[]⟩, .bool false, .int .i64 0, .int .i64 0, .int .i64 0, .float .f64 0, .string ⟨#[]⟩, .bool false, .int .i64 0, .int .i64 0, .int .i64 0, .bool false, .bool false, .int .i64 0, .int .i64 0, .bool false, .bool false, .slice none 0 0] 51)).drew = wD := ⟨_, rfl⟩
 have hxD : Xt w3 wD := by rw [← hwD]; exact ((Xt.refl w3).alloc _).drew
 have hrD : wD.heap[w3.heap.size]? = some (.cells #[.int .i64 0, .int .i64 0, .float .f64 0, .string ⟨#[]⟩, .bool false, .int .i64 0, .int .i64 0, .int .i64 0, .float .f64 0, .string ⟨#[]⟩, .bool false, .int .i64 0, .int .i64 0, .int .i64 0, .bool false, .bool false, .int .i64 0, .int .i64 0, .bool false, .bool false, .slice none 0 0] 51 (0, 0)) := by rw [← hwD]; exact (MapKept.heap_alloc w3 _).1
 have HPD := Lib.hid (HP3.out.step hxD)
 rw [hwD]
 refine hK.out _ _ ⟨HPD.out.cell, HPD.out.ad.1, HPD.out.ad.2, HPD.out.map⟩ (fun hHeld2 => ?_)
 clear hK K
 try simp only [Act.put, nm]
 refine rdH 10 (fun K hK => ?_)
 rw [if_pos (by rfl)]
 obtain ⟨w4, hw4⟩ : ∃ w4, wD.setRow w3.heap.size (contV X xa X.t.args.length X.t.args.length).cells = w4 := ⟨_, rfl⟩
 have hx4 : Xt w3 w4 := by rw [← hw4]; exact hxD.grownB (setRow_grown _ _ _) (fun m hm => by cases hm; exact Nat.le_refl _)
 refine wp_store_row 51 _ _ rfl w3.heap.size (contV X xa X.t.args.length X.t.args.length).cells rfl rfl 51 _ hrD (by kernel_rfl) rfl (by simp [Value.oneCell', Value.cells]) ?_
 rw [hw4]
 have HP4 := Lib.hid (HP3.out.step hx4)
 refine hK.out _ _ ⟨HP4.out.cell, HP4.out.ad.1, HP4.out.ad.2, HP4.out.map⟩ (fun hHeld3 => ?_)
 clear hK K
 try simp only [Act.put, List.getElem_toArray, List.getElem_cons_zero, List.getElem_cons_succ]
 refine tkH 11 ?_ ?_ ?_
 rotate_left
 · intro w hSw; (try dsimp only at hSw); go_simp; first | done | with_reducible rfl
 try simp only [Act.put, nm]
 refine wpAnyH_done (by kernel_rfl) ?_ _
 have hc4 := HP4.out.cell
 have hlen : ∀ ty, (Builtin.len_ #[100] ty #[.map (some mb)]).run Tryz.prog w4 = .ok (.int .i64 M.length) w4 := fun ty => by rw [← HLM.out]; exact HP4.out.map.len Tryz.underlying100
 go_wp2_with fail
 have hS4 : w4.drew.cell? ⟨gb, 0, none⟩ = some (.map (some mb)) ∧ w4.drew.cell? ⟨w.heap.size, 0, none⟩ = some (.int .i64 a.1) ∧ w4.drew.cell? ⟨w.heap.size, 1, none⟩ = some (.int .i64 a.2) ∧ w4.drew.rangeAt (w.heap.size + 1) 0 [.int .i64 c.kind, .int .i64 c.v.kind, .float .f64 c.v.x, .string c.v.s, .bool c.v.b, .int .i64 c.v.f, .int .i64 c.t.kind, .int .i64 c.t.op, .float .f64 c.t.x, .string c.t.s, .bool c.t.b, .int .i64 c.t.f, .int .i64 c.t.ref.a.1, .int .i64 c.t.ref.a.2, .bool c.t.ref.cf, .bool c.t.ref.rf, .int .i64 c.t.to.a.1, .int .i64 c.t.to.a.2, .bool c.t.to.cf, .bool c.t.to.rf, .slice ca c.t.args.length cap] := ⟨HP4.out.cell, HP4.out.ad.1, HP4.out.ad.2, range_row HP4.out.con⟩
 have HGC := Lib.hid (gcopy_any n c ca cap w4.drew HSM.out (HIN.out.xt HP4.out.xt.drew))
 refine wp_region_held_drew (S := fun w' => w'.cell? ⟨gb, 0, none⟩ = some (.map (some mb)) ∧ w'.cell? ⟨w.heap.size, 0, none⟩ = some (.int .i64 a.1) ∧ w'.cell? ⟨w.heap.size, 1, none⟩ = some (.int .i64 a.2) ∧ w'.rangeAt (w.heap.size + 1) 0 [.int .i64 c.kind, .int .i64 c.v.kind, .float .f64 c.v.x, .string c.v.s, .bool c.v.b, .int .i64 c.v.f, .int .i64 c.t.kind, .int .i64 c.t.op, .float .f64 c.t.x, .string c.t.s, .bool c.t.b, .int .i64 c.t.f, .int .i64 c.t.ref.a.1, .int .i64 c.t.ref.a.2, .bool c.t.ref.cf, .bool c.t.ref.rf, .int .i64 c.t.to.a.1, .int .i64 c.t.to.a.2, .bool c.t.to.cf, .bool c.t.to.rf, .slice ca c.t.args.length cap]) (by kernel_rfl) hS4 (fun hHeld => ?_)
 refine tkH 0 ?_ ?_ ?_
 rotate_left
 · intro w hSw; (try dsimp only at hSw); obtain ⟨s0, s1, s2, s3⟩ := hSw; clear s3; go_simp; first | done | with_reducible rfl
 try simp only [Act.put, nm]
 refine tkH 1 ?_ ?_ ?_
 rotate_left
 · intro w hSw; (try dsimp only at hSw); obtain ⟨s0, s1, s2, s3⟩ := hSw; clear s3; go_simp; first | done | with_reducible rfl
 try simp only [Act.put, nm]
 refine tkH 2 ?_ ?_ ?_
 rotate_left
 · intro w hSw; (try dsimp only at hSw); obtain ⟨s0, s1, s2, s3⟩ := hSw; clear s3; go_simp; first | done | with_reducible rfl
 try simp only [Act.put, nm]
 refine tkH 3 ?_ ?_ ?_
 rotate_left
 · intro w hSw; (try dsimp only at hSw); obtain ⟨s0, s1, s2, s3⟩ := hSw; clear s3; go_simp; first | done | with_reducible rfl
 try simp only [Act.put, nm]
 refine tkH 4 ?_ ?_ ?_
 rotate_left
 · intro w hSw; (try dsimp only at hSw); obtain ⟨s0, s1, s2, s3⟩ := hSw; clear s3; go_simp; first | done | with_reducible rfl
 try simp only [Act.put, nm]
 refine wpAnyH_take (i := 5) (oi := _) (v := .agg #[.int .i64 c.kind, .int .i64 c.v.kind, .float .f64 c.v.x, .string c.v.s, .bool c.v.b, .int .i64 c.v.f, .int .i64 c.t.kind, .int .i64 c.t.op, .float .f64 c.t.x, .string c.t.s, .bool c.t.b, .int .i64 c.t.f, .int .i64 c.t.ref.a.1, .int .i64 c.t.ref.a.2, .bool c.t.ref.cf, .bool c.t.ref.rf, .int .i64 c.t.to.a.1, .int .i64 c.t.to.a.2, .bool c.t.to.cf, .bool c.t.to.rf, .slice ca c.t.args.length cap]) rfl (by kernel_rfl) (by kernel_rfl) (by kernel_rfl) (fun _ _ _ h => h) (yieldsIf_load_mid (by rfl) 51 _ rfl (w.heap.size + 1) 0 rfl [.int .i64 c.kind, .int .i64 c.v.kind, .float .f64 c.v.x, .string c.v.s, .bool c.v.b, .int .i64 c.v.f, .int .i64 c.t.kind, .int .i64 c.t.op, .float .f64 c.t.x, .string c.t.s, .bool c.t.b, .int .i64 c.t.f, .int .i64 c.t.ref.a.1, .int .i64 c.t.ref.a.2, .bool c.t.ref.cf, .bool c.t.ref.rf, .int .i64 c.t.to.a.1, .int .i64 c.t.to.a.2, .bool c.t.to.cf, .bool c.t.to.rf, .slice ca c.t.args.length cap] _ (fun w' hw' => hw'.2.2.2) Tryz.underlying51 rfl (by kernel_rfl)) (by assumption) ?_
 try simp only [Act.put, nm]
 refine rdH 6 (fun K hK => ?_)
 go_simp
 refine HGC.out.mono ?_
 rintro e w5 ⟨a', rfl, hA, hx5⟩
 have HP5 := Lib.hid (HP4.out.step ((Xt.refl w4).drew.trans hx5))
 refine hK.out _ _ ⟨HP5.out.cell, HP5.out.ad.1, HP5.out.ad.2, range_row HP5.out.con⟩ (fun hHeld2 => ?_)
 clear hK K
 try simp only [Act.put, nm]
 obtain ⟨w6, hupd, hm6, hg6, hd6, hs6⟩ := HP5.out.map.update (P := Tryz.prog) (t := 100) (k := 24) (e := 51) adrKey Tryz.underlying100 a (copyCV c a')
 have hupd' : (Instr.mapUpdate 100 (.map (some mb)) (.agg #[.int .i64 a.1, .int .i64 a.2]) (copyCV c a')).run Tryz.prog w5 = .ok () w6 := hupd
 have HC6 : Hid (CellsIn w5 w6) := CellsIn.of_grown HP5.out.map hg6
 have HM6 := Lib.hid hm6
 have HG6 := Lib.hid hg6
 have HA := Lib.hid hA
 clear hm6 hg6 hA hupd
 refine rdH 7 (fun K hK => ?_)
 go_simp
 refine hK.out _ _ ⟨HC6.out _ _ _ HP5.out.cell, HC6.out _ _ _ HP5.out.ad.1, HC6.out _ _ _ HP5.out.ad.2, fun j v hv => HC6.out _ _ _ (range_row HP5.out.con j v hv)⟩ (fun hHeld3 => ?_)
 clear hK K
 try simp only [Act.put, nm]
 refine wpAnyH_done (by kernel_rfl) ?_ _
 go_wp2_with fail
 go_ret
 refine ⟨a', rfl, H.out.put (HP5.out.xt.cellsIn.trans HC6.out) HE.out (x := (copyC c, a')) (by rw [ceV_copy]) HM6.out ⟨smallT_copy _ HSM.out, n, ?_⟩ (HLS.out a'), ?_⟩
 · have h0 := HA.out.args.kept HC6.out
   show ArgsIn w6 n (.slice a' (copyT c.t).args.length (copyT c.t).args.length) (copyT c.t).args
   rw [copyT_len, copyT_args]; exact h0
 · have hx := HP5.out.xt
   exact ⟨HG6.out.os.trans hx.os, HG6.out.tape.trans hx.tape, HG6.out.output.trans hx.output, Nat.le_trans hx.size HG6.out.size, fun k hk hne => (HG6.out.block k (Nat.lt_of_lt_of_le hk hx.size) hne).trans (hx.block k hk)⟩
set_option maxRecDepth 100000 in
set_option maxHeartbeats 4000000 in
theorem gput_new (n : Nat) (gb mb : Nat) (M : GM) (a : Ad) (c : ContT) (ca : Option Addr) (cap : Nat) (w : World) (h : GridIs w gb mb M) (hok : c.ok) (hT : Tabs w) (hsm : smallT c.t) (hin : ArgsIn w n (.slice ca c.t.args.length cap) c.t.args) (hb : gvalidB c = true) (hb2 : validB a.1 a.2 = true) (hk : (c.kind == 0) = false) (his : (lkM a M).isSome = false) (hlt : M.length < 4096) : Calls Tryz.prog 25 #[.pointer (some ⟨gb, 0, none⟩), .agg #[.int .i64 a.1, .int .i64 a.2], contV c ca c.t.args.length cap] w fun e w' => ∃ x, e = .returned (.int .i64 0) ∧ GridIs w' gb mb (setM a (copyC c, x) M) ∧ w.grownBy w' (some mb) := by
 have H := Lib.hid h
 obtain ⟨E, he, w1, hw1, hP1⟩ := put_start h a c ca cap
 have HE := Lib.hid he
 have HP1 := Lib.hid hP1
 have HLM : Hid (E.length = M.length) := Lib.hid ((H.out.xt hP1.xt).len hP1.map he)
 have HIN := Lib.hid hin
 have HSM := Lib.hid hsm
 have HV := Lib.hid (gvalid_any n c ca cap w1 hok (hT.xt hP1.xt) (hin.xt hP1.xt))
 clear h he hP1 hin hsm hok hT
 have HIS : Hid ((lk a E).isSome = false) := by have h0 := HE.out a; rw [h0, Option.isSome_map]; exact his
 obtain ⟨⟨X, xa⟩, hX⟩ : ∃ x, (lkM a M).getD (zeroC, none) = x := ⟨_, rfl⟩
 have HX : Hid ((lk a E).getD (contV zeroC none 0 0) = contV X xa X.t.args.length X.t.args.length) := by rw [HE.out]; revert hX; cases lkM a M <;> (intro hX; cases hX; rfl)
 have HLS : Hid (∀ x, (setM a (copyC c, x) M).length ≤ 4096) := Lib.hid (fun x => Nat.le_trans len_setM_le hlt)
 have HLT := Lib.hid hlt
 clear hlt
 clear his hX
 have HB := Lib.hid hb
 have HB2 := Lib.hid hb2
 clear hb hb2
 go_enter Tryz.func25, Tryz.ntmps25
 go_wp2_with (first
  | (refine HV.out.mono ?_; rintro e w2 ⟨rfl, hx2⟩; rw [HB.out]; have HP2 := Lib.hid (HP1.out.step hx2); have hc2 := HP2.out.cell; obtain ⟨d0, d1⟩ := HP2.out.ad;  clear hx2)
  | (refine (valid_gr a.1 a.2 w2).mono ?_; rintro e w3 ⟨rfl, hg3⟩; rw [HB2.out]; have HP3 := Lib.hid (HP2.out.step hg3.xt); have hc3 := HP3.out.cell; obtain ⟨p0, p1⟩ := HP3.out.ad; have k3 := HP3.out.kind; clear hg3)
  | (refine BigFrame.wpList_want (by rfl) (fun K hK => wp_load_row 51 _ rfl (w.heap.size + 1) rfl 51 _ (0, 0) _ HP1.out.con Tryz.underlying51 rfl (by kernel_rfl) (hK _ _ ?_)); clear hK K))
 have HL : Hid (∀ w', MapIs w' mb E → (Instr.lookup 100 (.map (some mb)) (.agg #[.int .i64 a.1, .int .i64 a.2]) true).run Tryz.prog w' = .ok (.tuple #[contV X xa X.t.args.length X.t.args.length, .bool false]) w') := fun w' hm => by
  have := hm.lookup_ok (P := Tryz.prog) (t := 100) (k := 24) (e := 51) adrKey Tryz.underlying100 zeroCon a
  rw [HX.out, HIS.out] at this
  exact this
 have hS3 : w3.drew.cell? ⟨gb, 0, none⟩ = some (.map (some mb)) ∧ w3.drew.cell? ⟨w.heap.size, 0, none⟩ = some (.int .i64 a.1) ∧ w3.drew.cell? ⟨w.heap.size, 1, none⟩ = some (.int .i64 a.2) ∧ MapIs w3.drew mb E := ⟨hc3, p0, p1, HP3.out.map⟩
 refine wp_region_held_drew (S := fun w' => w'.cell? ⟨gb, 0, none⟩ = some (.map (some mb)) ∧ w'.cell? ⟨w.heap.size, 0, none⟩ = some (.int .i64 a.1) ∧ w'.cell? ⟨w.heap.size, 1, none⟩ = some (.int .i64 a.2) ∧ MapIs w' mb E) (by kernel_rfl) hS3 (fun hHeld => ?_)
 refine tkH 0 ?_ ?_ ?_
 rotate_left
 · intro w hSw; (try dsimp only at hSw); obtain ⟨s0, s1, s2, s3⟩ := hSw; go_simp; first | done | with_reducible rfl
 try simp only [Act.put, nm]
 refine tkH 1 ?_ ?_ ?_
 rotate_left
 · intro w hSw; (try dsimp only at hSw); obtain ⟨s0, s1, s2, s3⟩ := hSw; go_simp; first | done | with_reducible rfl
 try simp only [Act.put, nm]
 refine tkH 2 ?_ ?_ ?_
 rotate_left
 · intro w hSw; (try dsimp only at hSw); obtain ⟨s0, s1, s2, s3⟩ := hSw; go_simp; first | done | with_reducible rfl
 try simp only [Act.put, nm]
 refine tkH 3 ?_ ?_ ?_
 rotate_left
 · intro w hSw; (try dsimp only at hSw); obtain ⟨s0, s1, s2, s3⟩ := hSw; go_simp; first | done | with_reducible rfl
 try simp only [Act.put, nm]
 refine tkH 4 ?_ ?_ ?_
 rotate_left
 · intro w hSw; (try dsimp only at hSw); obtain ⟨s0, s1, s2, s3⟩ := hSw; go_simp; first | done | with_reducible rfl
 try simp only [Act.put, nm]
 refine tkH 5 ?_ ?_ ?_
 rotate_left
 · intro w hSw; (try dsimp only at hSw); obtain ⟨s0, s1, s2, s3⟩ := hSw; have hl := HL.out _ s3; go_simp; first | done | with_reducible rfl
 try simp only [Act.put, nm]
 refine tkH 6 ?_ ?_ ?_
 rotate_left
 · intro w hSw; (try dsimp only at hSw); go_simp; first | done | with_reducible rfl
 try simp only [Act.put, nm]
 refine tkH 7 ?_ ?_ ?_
 rotate_left
 · intro w hSw; (try dsimp only at hSw); go_simp; first | done | with_reducible rfl
 try simp only [Act.put, nm]
 refine tkH 8 ?_ ?_ ?_
 rotate_left
 · intro w hSw; (try dsimp only at hSw); go_simp; first | done | with_reducible rfl
 try simp only [Act.put, nm]
 refine rdH 9 (fun K hK => ?_)
 go_simp
 obtain ⟨wD, hwD⟩ : ∃ wD, (w3.alloc (.cells #[.int .i64 0, .int .i64 0, .float .f64 0, .string ⟨#[]⟩, .bool false, .int .i64 0, .int .i64 0, .int .i64 0, .float .f64 0, .string ⟨#[]⟩, .bool false, .int .i64 0, .int .i64 0, .int .i64 0, .bool false, .bool false, .int .i64 0, .int .i64 0, .bool false, .bool false, .slice none 0 0] 51)).drew = wD := ⟨_, rfl⟩
 have hxD : Xt w3 wD := by rw [← hwD]; exact ((Xt.refl w3).alloc _).drew
 have hrD : wD.heap[w3.heap.size]? = some (.cells #[.int .i64 0, .int .i64 0, .float .f64 0, .string ⟨#[]⟩, .bool false, .int .i64 0, .int .i64 0, .int .i64 0, .float .f64 0, .string ⟨#[]⟩, .bool false, .int .i64 0, .int .i64 0, .int .i64 0, .bool false, .bool false, .int .i64 0, .int .i64 0, .bool false, .bool false, .slice none 0 0] 51 (0, 0)) := by rw [← hwD]; exact (MapKept.heap_alloc w3 _).1
 have HPD := Lib.hid (HP3.out.step hxD)
 rw [hwD]
 refine hK.out _ _ ⟨HPD.out.cell, HPD.out.ad.1, HPD.out.ad.2, HPD.out.map⟩ (fun hHeld2 => ?_)
 clear hK K
 try simp only [Act.put, nm]
 refine rdH 10 (fun K hK => ?_)
 rw [if_pos (by rfl)]
 obtain ⟨w4, hw4⟩ : ∃ w4, wD.setRow w3.heap.size (contV X xa X.t.args.length X.t.args.length).cells = w4 := ⟨_, rfl⟩
 have hx4 : Xt w3 w4 := by rw [← hw4]; exact hxD.grownB (setRow_grown _ _ _) (fun m hm => by cases hm; exact Nat.le_refl _)
 refine wp_store_row 51 _ _ rfl w3.heap.size (contV X xa X.t.args.length X.t.args.length).cells rfl rfl 51 _ hrD (by kernel_rfl) rfl (by simp [Value.oneCell', Value.cells]) ?_
 rw [hw4]
 have HP4 := Lib.hid (HP3.out.step hx4)
 refine hK.out _ _ ⟨HP4.out.cell, HP4.out.ad.1, HP4.out.ad.2, HP4.out.map⟩ (fun hHeld3 => ?_)
 clear hK K
 try simp only [Act.put, List.getElem_toArray, List.getElem_cons_zero, List.getElem_cons_succ]
 refine tkH 11 ?_ ?_ ?_
 rotate_left
 · intro w hSw; (try dsimp only at hSw); go_simp; first | done | with_reducible rfl
 try simp only [Act.put, nm]
 refine wpAnyH_done (by kernel_rfl) ?_ _
 have hc4 := HP4.out.cell
 have hlen : ∀ ty, (Builtin.len_ #[100] ty #[.map (some mb)]).run Tryz.prog w4 = .ok (.int .i64 M.length) w4 := fun ty => by rw [← HLM.out]; exact HP4.out.map.len Tryz.underlying100
 have hge : ¬ (4096 : Int) ≤ (M.length : Int) := by have := HLT.out; omega
 go_wp2_with fail
 have hS4 : w4.drew.cell? ⟨gb, 0, none⟩ = some (.map (some mb)) ∧ w4.drew.cell? ⟨w.heap.size, 0, none⟩ = some (.int .i64 a.1) ∧ w4.drew.cell? ⟨w.heap.size, 1, none⟩ = some (.int .i64 a.2) ∧ w4.drew.rangeAt (w.heap.size + 1) 0 [.int .i64 c.kind, .int .i64 c.v.kind, .float .f64 c.v.x, .string c.v.s, .bool c.v.b, .int .i64 c.v.f, .int .i64 c.t.kind, .int .i64 c.t.op, .float .f64 c.t.x, .string c.t.s, .bool c.t.b, .int .i64 c.t.f, .int .i64 c.t.ref.a.1, .int .i64 c.t.ref.a.2, .bool c.t.ref.cf, .bool c.t.ref.rf, .int .i64 c.t.to.a.1, .int .i64 c.t.to.a.2, .bool c.t.to.cf, .bool c.t.to.rf, .slice ca c.t.args.length cap] := ⟨HP4.out.cell, HP4.out.ad.1, HP4.out.ad.2, range_row HP4.out.con⟩
 have HGC := Lib.hid (gcopy_any n c ca cap w4.drew HSM.out (HIN.out.xt HP4.out.xt.drew))
 refine wp_region_held_drew (S := fun w' => w'.cell? ⟨gb, 0, none⟩ = some (.map (some mb)) ∧ w'.cell? ⟨w.heap.size, 0, none⟩ = some (.int .i64 a.1) ∧ w'.cell? ⟨w.heap.size, 1, none⟩ = some (.int .i64 a.2) ∧ w'.rangeAt (w.heap.size + 1) 0 [.int .i64 c.kind, .int .i64 c.v.kind, .float .f64 c.v.x, .string c.v.s, .bool c.v.b, .int .i64 c.v.f, .int .i64 c.t.kind, .int .i64 c.t.op, .float .f64 c.t.x, .string c.t.s, .bool c.t.b, .int .i64 c.t.f, .int .i64 c.t.ref.a.1, .int .i64 c.t.ref.a.2, .bool c.t.ref.cf, .bool c.t.ref.rf, .int .i64 c.t.to.a.1, .int .i64 c.t.to.a.2, .bool c.t.to.cf, .bool c.t.to.rf, .slice ca c.t.args.length cap]) (by kernel_rfl) hS4 (fun hHeld => ?_)
 refine tkH 0 ?_ ?_ ?_
 rotate_left
 · intro w hSw; (try dsimp only at hSw); obtain ⟨s0, s1, s2, s3⟩ := hSw; clear s3; go_simp; first | done | with_reducible rfl
 try simp only [Act.put, nm]
 refine tkH 1 ?_ ?_ ?_
 rotate_left
 · intro w hSw; (try dsimp only at hSw); obtain ⟨s0, s1, s2, s3⟩ := hSw; clear s3; go_simp; first | done | with_reducible rfl
 try simp only [Act.put, nm]
 refine tkH 2 ?_ ?_ ?_
 rotate_left
 · intro w hSw; (try dsimp only at hSw); obtain ⟨s0, s1, s2, s3⟩ := hSw; clear s3; go_simp; first | done | with_reducible rfl
 try simp only [Act.put, nm]
 refine tkH 3 ?_ ?_ ?_
 rotate_left
 · intro w hSw; (try dsimp only at hSw); obtain ⟨s0, s1, s2, s3⟩ := hSw; clear s3; go_simp; first | done | with_reducible rfl
 try simp only [Act.put, nm]
 refine tkH 4 ?_ ?_ ?_
 rotate_left
 · intro w hSw; (try dsimp only at hSw); obtain ⟨s0, s1, s2, s3⟩ := hSw; clear s3; go_simp; first | done | with_reducible rfl
 try simp only [Act.put, nm]
 refine wpAnyH_take (i := 5) (oi := _) (v := .agg #[.int .i64 c.kind, .int .i64 c.v.kind, .float .f64 c.v.x, .string c.v.s, .bool c.v.b, .int .i64 c.v.f, .int .i64 c.t.kind, .int .i64 c.t.op, .float .f64 c.t.x, .string c.t.s, .bool c.t.b, .int .i64 c.t.f, .int .i64 c.t.ref.a.1, .int .i64 c.t.ref.a.2, .bool c.t.ref.cf, .bool c.t.ref.rf, .int .i64 c.t.to.a.1, .int .i64 c.t.to.a.2, .bool c.t.to.cf, .bool c.t.to.rf, .slice ca c.t.args.length cap]) rfl (by kernel_rfl) (by kernel_rfl) (by kernel_rfl) (fun _ _ _ h => h) (yieldsIf_load_mid (by rfl) 51 _ rfl (w.heap.size + 1) 0 rfl [.int .i64 c.kind, .int .i64 c.v.kind, .float .f64 c.v.x, .string c.v.s, .bool c.v.b, .int .i64 c.v.f, .int .i64 c.t.kind, .int .i64 c.t.op, .float .f64 c.t.x, .string c.t.s, .bool c.t.b, .int .i64 c.t.f, .int .i64 c.t.ref.a.1, .int .i64 c.t.ref.a.2, .bool c.t.ref.cf, .bool c.t.ref.rf, .int .i64 c.t.to.a.1, .int .i64 c.t.to.a.2, .bool c.t.to.cf, .bool c.t.to.rf, .slice ca c.t.args.length cap] _ (fun w' hw' => hw'.2.2.2) Tryz.underlying51 rfl (by kernel_rfl)) (by assumption) ?_
 try simp only [Act.put, nm]
 refine rdH 6 (fun K hK => ?_)
 go_simp
 refine HGC.out.mono ?_
 rintro e w5 ⟨a', rfl, hA, hx5⟩
 have HP5 := Lib.hid (HP4.out.step ((Xt.refl w4).drew.trans hx5))
 refine hK.out _ _ ⟨HP5.out.cell, HP5.out.ad.1, HP5.out.ad.2, range_row HP5.out.con⟩ (fun hHeld2 => ?_)
 clear hK K
 try simp only [Act.put, nm]
 obtain ⟨w6, hupd, hm6, hg6, hd6, hs6⟩ := HP5.out.map.update (P := Tryz.prog) (t := 100) (k := 24) (e := 51) adrKey Tryz.underlying100 a (copyCV c a')
 have hupd' : (Instr.mapUpdate 100 (.map (some mb)) (.agg #[.int .i64 a.1, .int .i64 a.2]) (copyCV c a')).run Tryz.prog w5 = .ok () w6 := hupd
 have HC6 : Hid (CellsIn w5 w6) := CellsIn.of_grown HP5.out.map hg6
 have HM6 := Lib.hid hm6
 have HG6 := Lib.hid hg6
 have HA := Lib.hid hA
 clear hm6 hg6 hA hupd
 refine rdH 7 (fun K hK => ?_)
 go_simp
 refine hK.out _ _ ⟨HC6.out _ _ _ HP5.out.cell, HC6.out _ _ _ HP5.out.ad.1, HC6.out _ _ _ HP5.out.ad.2, fun j v hv => HC6.out _ _ _ (range_row HP5.out.con j v hv)⟩ (fun hHeld3 => ?_)
 clear hK K
 try simp only [Act.put, nm]
 refine wpAnyH_done (by kernel_rfl) ?_ _
 go_wp2_with fail
 go_ret
 refine ⟨a', rfl, H.out.put (HP5.out.xt.cellsIn.trans HC6.out) HE.out (x := (copyC c, a')) (by rw [ceV_copy]) HM6.out ⟨smallT_copy _ HSM.out, n, ?_⟩ (HLS.out a'), ?_⟩
 · have h0 := HA.out.args.kept HC6.out
   show ArgsIn w6 n (.slice a' (copyT c.t).args.length (copyT c.t).args.length) (copyT c.t).args
   rw [copyT_len, copyT_args]; exact h0
 · have hx := HP5.out.xt
   exact ⟨HG6.out.os.trans hx.os, HG6.out.tape.trans hx.tape, HG6.out.output.trans hx.output, Nat.le_trans hx.size HG6.out.size, fun k hk hne => (HG6.out.block k (Nat.lt_of_lt_of_le hk hx.size) hne).trans (hx.block k hk)⟩
theorem gput_any (n : Nat) (gb mb : Nat) (M : GM) (a : Ad) (c : ContT) (ca : Option Addr) (cap : Nat) (w : World) (h : GridIs w gb mb M) (hok : c.ok) (hT : Tabs w) (hsm : smallT c.t) (hin : ArgsIn w n (.slice ca c.t.args.length cap) c.t.args) : Calls Tryz.prog 25 #[.pointer (some ⟨gb, 0, none⟩), .agg #[.int .i64 a.1, .int .i64 a.2], contV c ca c.t.args.length cap] w (PutR w gb mb M a c) := by
 by_cases hb : gvalidB c = true
 · by_cases hb2 : validB a.1 a.2 = true
   · by_cases hk : (c.kind == 0) = true
     · refine (gput_del n gb mb M a c ca cap w h hok hT hsm hin hb hb2 hk).mono ?_
       rintro e w' ⟨rfl, q1, q2⟩
       exact ⟨none, by simp [putCode, hb, hb2, hk], by simpa [putTo, hb, hb2, hk] using q1, q2⟩
     · have hk := Bool.eq_false_iff.2 hk
       by_cases his : (lkM a M).isSome = true
       · refine (gput_old n gb mb M a c ca cap w h hok hT hsm hin hb hb2 hk his).mono ?_
         rintro e w' ⟨x, rfl, q1, q2⟩
         exact ⟨x, by simp [putCode, hb, hb2, hk, fullB, his], by simpa [putTo, hb, hb2, hk, fullB, his] using q1, q2⟩
       · have his := Bool.eq_false_iff.2 his
         by_cases hlt : M.length < 4096
         · refine (gput_new n gb mb M a c ca cap w h hok hT hsm hin hb hb2 hk his hlt).mono ?_
           rintro e w' ⟨x, rfl, q1, q2⟩
           have h4 : ¬ 4096 ≤ M.length := by omega
           exact ⟨x, by simp [putCode, hb, hb2, hk, fullB, his, h4], by simpa [putTo, hb, hb2, hk, fullB, his, h4] using q1, q2⟩
         · have h4 : 4096 ≤ M.length := by omega
           refine (gput_full n gb mb M a c ca cap w h hok hT hsm hin hb hb2 hk his (by simp [fullB, his, h4])).mono ?_
           rintro e w' ⟨rfl, q1⟩
           exact ⟨none, by simp [putCode, hb, hb2, hk, fullB, his, h4], by simpa [putTo, hb, hb2, hk, fullB, his, h4] using h.xt q1, ⟨q1.os, q1.tape, q1.output, q1.size, fun k hk _ => q1.block k hk⟩⟩
   · have hb2 := Bool.eq_false_iff.2 hb2
     refine (gput_ad n gb mb M a c ca cap w h hok hT hsm hin hb hb2).mono ?_
     rintro e w' ⟨rfl, q1⟩
     exact ⟨none, by simp [putCode, hb, hb2], by simpa [putTo, hb, hb2] using h.xt q1, ⟨q1.os, q1.tape, q1.output, q1.size, fun k hk _ => q1.block k hk⟩⟩
 · have hb := Bool.eq_false_iff.2 hb
   refine (gput_inv n gb mb M a c ca cap w h hok hT hsm hin hb).mono ?_
   rintro e w' ⟨rfl, q1⟩
   exact ⟨none, by simp [putCode, hb], by simpa [putTo, hb] using h.xt q1, ⟨q1.os, q1.tape, q1.output, q1.size, fun k hk _ => q1.block k hk⟩⟩
end Go.Proofs.YtdoeejhdenifpaaGreatDoor
namespace Go.Proofs.YtdoeejhdenifpaaGreatDoor
open Go.RowKit Go.Sort
section
variable {α : Type}
theorem len_setM_new {a : Ad} {l : α} : ∀ {M : List (Ad × α)}, lkM a M = none → (setM a l M).length = M.length + 1
 | [], _ => by simp [setM]
 | x :: r, h => by
  unfold lkM at h
  by_cases hx : x.1 = a
  · simp [hx] at h
  · rw [if_neg hx] at h
    unfold setM
    rw [if_neg hx]
    split
    · simp
    · simp [len_setM_new h]
end
structure Full (wd n : Nat) (M : GM) : Prop where
 sorted : SortedM M
 len : M.length = n
 keys : ∀ x ∈ M, 1 ≤ x.1.1 ∧ x.1.1 ≤ wd ∧ 1 ≤ x.1.2 ∧ (x.1.2 - 1).toNat * wd + (x.1.1 - 1).toNat < n
 one : 0 < n → (lkM (1, 1) M).isSome = true
theorem Full.no {wd n : Nat} {M : GM} (h : Full wd n M) {a : Ad} (ha : n ≤ (a.2 - 1).toNat * wd + (a.1 - 1).toNat) : lkM a M = none := lkM_none.2 fun x hx e => by
 have := (h.keys x hx).2.2.2
 rw [e] at this; omega
theorem Full.put {wd n : Nat} {M : GM} (h : Full wd n M) {r c : Nat} (hc : c < wd) (hn : n = r * wd + c) (x : CE) : Full wd (n + 1) (setM ((c : Int) + 1, (r : Int) + 1) x M) := by
 have hno : lkM ((c : Int) + 1, (r : Int) + 1) M = none := h.no (by
  rw [show ((r : Int) + 1 - 1).toNat = r by omega, show ((c : Int) + 1 - 1).toNat = c by omega]; omega)
 refine ⟨sorted_setM _ _ h.sorted, by rw [len_setM_new hno, h.len], fun y hy => ?_, fun _ => ?_⟩
 · rcases mem_setM hy with rfl | hy
   · refine ⟨by show (1 : Int) ≤ (c : Int) + 1; omega, by show (c : Int) + 1 ≤ (wd : Int); omega, by show (1 : Int) ≤ (r : Int) + 1; omega, ?_⟩
     show ((r : Int) + 1 - 1).toNat * wd + ((c : Int) + 1 - 1).toNat < n + 1
     rw [show ((r : Int) + 1 - 1).toNat = r by omega, show ((c : Int) + 1 - 1).toNat = c by omega]; omega
   · have := h.keys y hy; omega
 · rw [lkM_set]
   by_cases hn0 : 0 < n
   · split
     · rfl
     · exact h.one hn0
   · have hz : r * wd = 0 ∧ c = 0 := by omega
     have hr : r = 0 := by
      rcases Nat.mul_eq_zero.1 hz.1 with h | h
      · exact h
      · omega
     rw [hr, hz.2]
     simp
end Go.Proofs.YtdoeejhdenifpaaGreatDoor
/- Plain grids. -/
namespace Go.Proofs.YtdoeejhdenifpaaGreatDoor
open Go.RowKit Go.Sort
abbrev PG := List (Ad × ContT)
def er (M : GM) : PG := M.map fun x => (x.1, x.2.1)
theorem er_lk (a : Ad) : ∀ M : GM, lkM a (er M) = (lkM a M).map (·.1)
 | [] => rfl
 | x :: r => by
  have ih := er_lk a r
  unfold er at ih ⊢
  rw [List.map_cons, lkM, lkM]
  by_cases h : x.1 = a
  · simp [h]
  · simp only [h, if_false]; exact ih
theorem er_set (a : Ad) (c : ContT) (p : Option Addr) : ∀ M : GM, er (setM a (c, p) M) = setM a c (er M)
 | [] => rfl
 | x :: r => by
  have ih := er_set a c p r
  unfold er at ih ⊢
  rw [List.map_cons, setM, setM]
  by_cases h : x.1 = a
  · simp [h]
  · simp only [h, if_false]
    by_cases h2 : adLt a x.1 = true
    · simp [h2]
    · simp only [h2, Bool.false_eq_true, if_false, List.map_cons, ih]
theorem er_del (a : Ad) (M : GM) : er (delM a M) = delM a (er M) := by
 unfold er delM
 rw [List.filter_map]
 rfl
theorem er_len (M : GM) : (er M).length = M.length := by simp [er]
def fullP (P : PG) (a : Ad) : Bool := !(lkM a P).isSome && decide (4096 ≤ P.length)
def codeP (P : PG) (a : Ad) (c : ContT) : Int := if gvalidB c = false then 1 else if validB a.1 a.2 = false then 20 else if (c.kind == 0) = true then 0 else if fullP P a = true then 41 else 0
def putP (P : PG) (a : Ad) (c : ContT) : PG := if gvalidB c = false then P else if validB a.1 a.2 = false then P else if (c.kind == 0) = true then delM a P else if fullP P a = true then P else setM a (copyC c) P
theorem er_full (M : GM) (a : Ad) : fullB M a = fullP (er M) a := by unfold fullB fullP; rw [er_lk, er_len]; simp
theorem er_code (M : GM) (a : Ad) (c : ContT) : putCode M a c = codeP (er M) a c := by unfold putCode codeP; rw [er_full]
theorem er_put (M : GM) (a : Ad) (c : ContT) (x : Option Addr) : er (putTo M a c x) = putP (er M) a c := by
 unfold putTo putP
 rw [er_full]
 split
 · rfl
 split
 · rfl
 split
 · exact er_del a M
 split
 · rfl
 · exact er_set a (copyC c) x M
structure GOk (P : PG) : Prop where
 sorted : SortedM P
 many : P.length ≤ 4096
 each : ∀ x ∈ P, validB x.1.1 x.1.2 = true ∧ gvalidB x.2 = true ∧ (x.2.kind == 0) = false ∧ copyC x.2 = x.2 ∧ x.2.ok
theorem GOk.nil : GOk [] := ⟨List.Pairwise.nil, by simp, fun x hx => by cases hx⟩
theorem GOk.del {P : PG} (h : GOk P) (a : Ad) : GOk (delM a P) := ⟨sorted_delM a h.sorted, Nat.le_trans (List.length_filter_le ..) h.many, fun x hx => h.each x (List.mem_filter.1 hx).1⟩
theorem GOk.set {P : PG} (h : GOk P) {a : Ad} {c : ContT} (hf : fullP P a = false) (hv : validB a.1 a.2 = true) (hg : gvalidB c = true) (hk : (c.kind == 0) = false) (hok : c.ok) : GOk (setM a (copyC c) P) := by
 refine ⟨sorted_setM a _ h.sorted, ?_, fun x hx => ?_⟩
 · unfold fullP at hf
   cases hl : lkM a P with
   | none =>
    rw [len_setM_new hl]
    rw [hl] at hf
    simp only [Option.isSome_none, Bool.not_false, Bool.true_and, decide_eq_false_iff_not] at hf
    omega
   | some y =>
    rw [len_setM h.sorted (by rw [hl]; rfl)]
    exact h.many
 · rcases mem_setM hx with rfl | hx
   · exact ⟨hv, (gvalidB_copy c).trans hg, hk, copyC_idem c, okC_copy hok⟩
   · exact h.each x hx
theorem GOk.put {P : PG} (h : GOk P) (a : Ad) {c : ContT} (hok : c.ok) : GOk (putP P a c) := by
 unfold putP
 cases h1 : gvalidB c
 · exact h
 cases h2 : validB a.1 a.2
 · exact h
 cases h3 : (c.kind == 0)
 · simp only [Bool.true_eq_false, Bool.false_eq_true, if_false]
   cases h4 : fullP P a
   · exact h.set h4 h2 h1 h3 hok
   · exact h
 · exact h.del a
theorem setM_perm {α : Type} {a : Ad} {v : α} : ∀ {M : List (Ad × α)}, lkM a M = none → (setM a v M).Perm ((a, v) :: M)
 | [], _ => List.Perm.refl _
 | x :: r, h => by
  unfold lkM at h
  by_cases hx : x.1 = a
  · simp [hx] at h
  · simp only [hx, if_false] at h
    unfold setM
    simp only [hx, if_false]
    by_cases h2 : adLt a x.1 = true
    · simp only [h2, if_true]; exact List.Perm.refl _
    · simp only [h2, Bool.false_eq_true, if_false]
      exact ((setM_perm h).cons x).trans (List.Perm.swap _ _ _)
theorem sortedM_perm {α : Type} {M N : List (Ad × α)} (hM : SortedM M) (hN : SortedM N) (hp : M.Perm N) : M = N := by
 refine List.Perm.eq_of_pairwise (le := fun x y => adLt x.1 y.1 = true) ?_ ?_ ?_ hp
 · intro x y _ _ h1 h2
   have := swo_ad.trans _ _ _ h1 h2
   rw [adLt_irrefl] at this; cases this
 · exact hM
 · exact hN
theorem snoc_ind {α : Type} {P : List α → Prop} (h0 : P []) (h1 : ∀ l x, P l → P (l ++ [x])) (l : List α) : P l := by
 rw [← List.reverse_reverse l]
 induction l.reverse with
 | nil => exact h0
 | cons x r ih => rw [List.reverse_cons]; exact h1 _ _ ih
def allP (P : PG) (l : List (Ad × ContT)) : PG := l.foldl (fun P x => putP P x.1 x.2) P
theorem allP_snoc (P : PG) (l : List (Ad × ContT)) (x : Ad × ContT) : allP P (l ++ [x]) = putP (allP P l) x.1 x.2 := by simp [allP]
theorem allP_ok {P : PG} (h : GOk P) : ∀ {l : List (Ad × ContT)}, (∀ x ∈ l, x.2.ok) → GOk (allP P l) := by
 intro l
 induction l generalizing P with
 | nil => exact fun _ => h
 | cons x r ih => exact fun hl => ih (h.put x.1 (hl x List.mem_cons_self)) fun y hy => hl y (List.mem_cons_of_mem _ hy)
theorem put_new {P : PG} {x : Ad × ContT} (hl : lkM x.1 P = none) (hlen : P.length < 4096) (hx : validB x.1.1 x.1.2 = true ∧ gvalidB x.2 = true ∧ (x.2.kind == 0) = false ∧ copyC x.2 = x.2 ∧ x.2.ok) :
    codeP P x.1 x.2 = 0 ∧ putP P x.1 x.2 = setM x.1 x.2 P := by
 obtain ⟨h1, h2, h3, h4, _⟩ := hx
 have hf : fullP P x.1 = false := by unfold fullP; rw [hl]; simp; omega
 unfold codeP putP
 rw [h1, h2, h3, hf, h4]
 exact ⟨rfl, rfl⟩
end Go.Proofs.YtdoeejhdenifpaaGreatDoor
