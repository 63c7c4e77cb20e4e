import Derived.Test.YtideclfpbpjebaaGreatDoorB31
import Derived.Deep.RegionHeld3
import Derived.Deep.MidRow
import Derived.Lib.AppendZeros
import Derived.Test.YtideclfpbpjebaaGreatDoorB32
import Derived.Test.YtideclfpbpjebaaGreatDoorB27
import Derived.Test.YtideclfpbpjebaaGreatDoorB28
namespace Go.Proofs.YtideclfpbpjebaaGreatDoor
section
open Go.RowKit Go.Sort Go.Maps Go.Shelf Go.MapKept
attribute [local go_sem] Oper.semAt_some

set_option maxRecDepth 100000 in
set_option maxHeartbeats 8000000 in
theorem dput_del0 (n : Nat) (rb : Nat) (l : List PI) (a : Ad) (c : ContT) (ca : Option Addr) (cap : Nat) (w : World) (h : DG w rb l) (hok : c.ok) (hsm : smallT c.t) (hin : ArgsIn w n (.slice ca c.t.args.length cap) c.t.args) (hb : gvalidB c = true) (hb2 : validB a.1 a.2 = true) (hk : c.kind = 0) (hi : (lkM a (pis l)).isSome = false) : Calls Tryz.prog 21 #[.pointer (some ⟨rb, 0, none⟩), .agg #[.int .i64 a.1, .int .i64 a.2], contV c ca c.t.args.length cap] w fun e w' => e = .returned (.int .i64 0) ∧ ∃ l', DG w' rb l' ∧ pis l' = delM a (pis l) ∧ w.grownBy w' (some rb) := by
  have H := Lib.hid h
  obtain ⟨v, hv, hP⟩ := h.obj
  obtain ⟨la, lc, rfl, hlc, hlc2⟩ := hP.shape
  have hm := h.many
  obtain ⟨w1, hw1, hP1⟩ := dput_start hv a c ca cap
  have HP1 := Lib.hid hP1
  have HOB := Lib.hid hv
  have HPI := Lib.hid hP
  have HIN := Lib.hid hin
  have HSM := Lib.hid hsm
  have HOK := Lib.hid hok
  have HV := Lib.hid (fun W (hx : Xt w W) => gvalid17_any n c ca cap W hok (hin.xt hx))
  have HPL := Lib.hid (fun W (hx : Xt w W) => place17_any rb l a W (h.xt hx))
  obtain ⟨bi, hbi⟩ : ∃ b, (lkM a (pis l)).isSome = b := ⟨_, rfl⟩
  have HBI := Lib.hid hbi
  clear h hin hsm hok hv hP hP1 hbi
  have HB := Lib.hid hb
  have HB2 := Lib.hid hb2
  have ebi : bi = false := HBI.out.symm.trans hi
  subst ebi
  have hkb : (c.kind != 0) = false := by simp [hk]
  clear hb hb2 hi hk
  go_enter Tryz.func21, Tryz.ntmps21
  go_upto_region 12 with (first
    | (go_at_call 42; refine (HV.out _ HP1.out.xt).mono ?_; rintro e w2 ⟨rfl, hx2⟩; try rw [HB.out]; replace HP1 := Lib.hid (HP1.out.step hx2.xt); obtain ⟨q0, q1⟩ := HP1.out.ad; have k1 := HP1.out.kind; have cc := HP1.out.cell; have cf := cc.2; have cc := cc.1; clear hx2)
    | (go_at_call 43; refine (valid10_any a.1 a.2 _).mono ?_; rintro e w3 ⟨rfl, hx3⟩; try rw [HB2.out]; replace HP1 := Lib.hid (HP1.out.step (w4 := w3) (by rw [hx3]; exact (Xt.refl _).alloc _)); obtain ⟨q0, q1⟩ := HP1.out.ad; have k1 := HP1.out.kind; have cc := HP1.out.cell; have cf := cc.2; have cc := cc.1; clear hx3)
    | (go_at_call 44; refine (HPL.out _ HP1.out.xt).mono ?_; rintro e w4 ⟨lo, is, rfl, hpos, hx4⟩; have his := (hpos.look H.out.sorted).1.symm.trans HBI.out; subst his; have HPOS := Lib.hid hpos; replace HP1 := Lib.hid (HP1.out.step hx4); obtain ⟨q0, q1⟩ := HP1.out.ad; have k1 := HP1.out.kind; have cc := HP1.out.cell; have cf := cc.2; have cc := cc.1; clear hx4 hpos; have hlo := HPOS.out.le; obtain ⟨a1, hs1, hS1⟩ := to_anyG (S := 29) Tryz.underlying29 rfl (fun w => by kernel_rfl) HPI.out.sl lo hlo; obtain ⟨v5, w5, hp5, hG5, hg5⟩ := PutsG.push (base := w4.heap.size) (PutsG.nil w4 w4.heap.size) (Nat.le_refl _) (hS1.keptC HP1.out.xt.cellsIn) (fun x hx => HPI.out.old HP1.out.xt (fun g hg => by cases hg) x (List.mem_of_mem_take hx)) (by simp only [List.length_nil, List.length_take]; omega) 29; have hb4 : w.heap.size + 1 < w4.heap.size := (Array.getElem?_eq_some_iff.1 HP1.out.con).1; have hsz5 := hg5.size; rw [List.nil_append] at hG5; have hx5 : Xt w4 w5 := (Xt.refl w4).grownB hg5 (fun m hm => by cases hm); have HP5 := Lib.hid (HP1.out.step hx5); have HG5 := Lib.hid hG5; have k5 := HP5.out.kind; have c5 := HP5.out.cell; have f5 := c5.2; replace c5 := c5.1; obtain ⟨a6, c6, hs6, hS6⟩ := from_anyG (S := 29) Tryz.underlying29 rfl (fun w => by kernel_rfl) HPI.out.sl (lo) (by omega); have HS6 := Lib.hid hS6; clear hS1 hx5 hG5 hg5 hS6)
    | (refine BigFrame.wpList_want (by rfl) (fun K hK => wp_load_row 46 _ rfl (w.heap.size + 1) rfl 46 _ (0, 0) _ HP1.out.con Tryz.underlying46 rfl (by kernel_rfl) (hK _ _ ?_)); clear hK K)
    | (at_builtin; refine Lib.wpList_append_run _ rfl _ _ _ _ rfl _ _ rfl rfl _ _ hp5 ?_; clear hp5))
  obtain ⟨v8, w8, hp8, hG8, hg8⟩ := HG5.out.push hsz5 (HS6.out.keptC HP5.out.xt.cellsIn) (fun x hx => HPI.out.old HP5.out.xt (fun g hg => by have := (HG5.out.base g hg).1; omega) x (List.mem_of_mem_drop hx)) (by simp only [List.length_take, List.length_drop]; omega) 29
  have hx8 : Xt w w8 := HP5.out.xt.grownB hg8 (fun m hm => by have := (HG5.out.base m (by first | exact hm | exact hm.symm)).1; omega)
  have HX8 := Lib.hid hx8
  obtain ⟨L8, hL8⟩ : ∃ n, (l.take lo ++ l.drop (lo)).length = n := ⟨_, rfl⟩
  obtain ⟨a8, k8, rfl, _, _⟩ := hG8.own.slice hL8
  clear hL8
  have HG8 := Lib.hid hG8
  have o8 := (hx8.block _ H.out.lt).trans HOB.out
  have c8 : w8.cell? ⟨rb, 0, none⟩ = some (.slice la l.length lc) := (by simp [World.cell?, o8])
  have f8 : w8.frozen? ⟨rb, 0, none⟩ = false := (by simp [World.frozen?, o8])
  clear o8 hx8 hG8 hg8 hsz5 hs1
  go_wp2_with (first
    | (at_builtin; refine Lib.wpList_append_run _ rfl _ _ _ _ rfl _ _ rfl rfl _ _ hp8 ?_; clear hp8))
  go_ret
  have hdel := HPOS.out.del H.out.sorted
  simp only [Bool.false_eq_true, if_false] at hdel
  obtain ⟨d1, d2⟩ := DG.stored H.out HX8.out (by have := H.out.lt; omega) HG8.out (by rw [hdel]; exact sorted_delM a H.out.sorted) (by simp only [List.length_append, List.length_take, List.length_drop]; omega) (fun x hx => H.out.small x (by rcases List.mem_append.1 hx with q | q; exact List.mem_of_mem_take q; exact List.mem_of_mem_drop q))
  exact ⟨rfl, _, d1, hdel, d2⟩

set_option maxRecDepth 100000 in
set_option maxHeartbeats 8000000 in
theorem dput_del1 (n : Nat) (rb : Nat) (l : List PI) (a : Ad) (c : ContT) (ca : Option Addr) (cap : Nat) (w : World) (h : DG w rb l) (hok : c.ok) (hsm : smallT c.t) (hin : ArgsIn w n (.slice ca c.t.args.length cap) c.t.args) (hb : gvalidB c = true) (hb2 : validB a.1 a.2 = true) (hk : c.kind = 0) (hi : (lkM a (pis l)).isSome = true) : Calls Tryz.prog 21 #[.pointer (some ⟨rb, 0, none⟩), .agg #[.int .i64 a.1, .int .i64 a.2], contV c ca c.t.args.length cap] w fun e w' => e = .returned (.int .i64 0) ∧ ∃ l', DG w' rb l' ∧ pis l' = delM a (pis l) ∧ w.grownBy w' (some rb) := by
  have H := Lib.hid h
  obtain ⟨v, hv, hP⟩ := h.obj
  obtain ⟨la, lc, rfl, hlc, hlc2⟩ := hP.shape
  have hm := h.many
  obtain ⟨w1, hw1, hP1⟩ := dput_start hv a c ca cap
  have HP1 := Lib.hid hP1
  have HOB := Lib.hid hv
  have HPI := Lib.hid hP
  have HIN := Lib.hid hin
  have HSM := Lib.hid hsm
  have HOK := Lib.hid hok
  have HV := Lib.hid (fun W (hx : Xt w W) => gvalid17_any n c ca cap W hok (hin.xt hx))
  have HPL := Lib.hid (fun W (hx : Xt w W) => place17_any rb l a W (h.xt hx))
  obtain ⟨bi, hbi⟩ : ∃ b, (lkM a (pis l)).isSome = b := ⟨_, rfl⟩
  have HBI := Lib.hid hbi
  clear h hin hsm hok hv hP hP1 hbi
  have HB := Lib.hid hb
  have HB2 := Lib.hid hb2
  have ebi : bi = true := HBI.out.symm.trans hi
  subst ebi
  have hkb : (c.kind != 0) = false := by simp [hk]
  clear hb hb2 hi hk
  go_enter Tryz.func21, Tryz.ntmps21
  go_upto_region 12 with (first
    | (go_at_call 42; refine (HV.out _ HP1.out.xt).mono ?_; rintro e w2 ⟨rfl, hx2⟩; try rw [HB.out]; replace HP1 := Lib.hid (HP1.out.step hx2.xt); obtain ⟨q0, q1⟩ := HP1.out.ad; have k1 := HP1.out.kind; have cc := HP1.out.cell; have cf := cc.2; have cc := cc.1; clear hx2)
    | (go_at_call 43; refine (valid10_any a.1 a.2 _).mono ?_; rintro e w3 ⟨rfl, hx3⟩; try rw [HB2.out]; replace HP1 := Lib.hid (HP1.out.step (w4 := w3) (by rw [hx3]; exact (Xt.refl _).alloc _)); obtain ⟨q0, q1⟩ := HP1.out.ad; have k1 := HP1.out.kind; have cc := HP1.out.cell; have cf := cc.2; have cc := cc.1; clear hx3)
    | (go_at_call 44; refine (HPL.out _ HP1.out.xt).mono ?_; rintro e w4 ⟨lo, is, rfl, hpos, hx4⟩; have his := (hpos.look H.out.sorted).1.symm.trans HBI.out; subst his; have HPOS := Lib.hid hpos; replace HP1 := Lib.hid (HP1.out.step hx4); obtain ⟨q0, q1⟩ := HP1.out.ad; have k1 := HP1.out.kind; have cc := HP1.out.cell; have cf := cc.2; have cc := cc.1; clear hx4 hpos; have hlo := HPOS.out.le; obtain ⟨a1, hs1, hS1⟩ := to_anyG (S := 29) Tryz.underlying29 rfl (fun w => by kernel_rfl) HPI.out.sl lo hlo; obtain ⟨v5, w5, hp5, hG5, hg5⟩ := PutsG.push (base := w4.heap.size) (PutsG.nil w4 w4.heap.size) (Nat.le_refl _) (hS1.keptC HP1.out.xt.cellsIn) (fun x hx => HPI.out.old HP1.out.xt (fun g hg => by cases hg) x (List.mem_of_mem_take hx)) (by simp only [List.length_nil, List.length_take]; omega) 29; have hb4 : w.heap.size + 1 < w4.heap.size := (Array.getElem?_eq_some_iff.1 HP1.out.con).1; have hsz5 := hg5.size; rw [List.nil_append] at hG5; have hx5 : Xt w4 w5 := (Xt.refl w4).grownB hg5 (fun m hm => by cases hm); have HP5 := Lib.hid (HP1.out.step hx5); have HG5 := Lib.hid hG5; have k5 := HP5.out.kind; have c5 := HP5.out.cell; have f5 := c5.2; replace c5 := c5.1; have hll := (List.getElem?_eq_some_iff.1 (Classical.choose_spec (HPOS.out.there.1 rfl)).1).1; obtain ⟨a6, c6, hs6, hS6⟩ := from_anyG (S := 29) Tryz.underlying29 rfl (fun w => by kernel_rfl) HPI.out.sl (lo + 1) (by omega); have HS6 := Lib.hid hS6; have hza : IntKind.i64.wrap ((lo : Int) + 1) = ((lo + 1 : Nat) : Int) := (by rw [IntKind.wrap_i64]; omega); have hs6' := hs6; rw [show (((lo + 1 : Nat)) : Int) = (lo : Int) + 1 from by omega] at hs6'; clear hS1 hx5 hG5 hg5 hS6)
    | (refine BigFrame.wpList_want (by rfl) (fun K hK => wp_load_row 46 _ rfl (w.heap.size + 1) rfl 46 _ (0, 0) _ HP1.out.con Tryz.underlying46 rfl (by kernel_rfl) (hK _ _ ?_)); clear hK K)
    | (at_builtin; refine Lib.wpList_append_run _ rfl _ _ _ _ rfl _ _ rfl rfl _ _ hp5 ?_; clear hp5))
  obtain ⟨v8, w8, hp8, hG8, hg8⟩ := HG5.out.push hsz5 (HS6.out.keptC HP5.out.xt.cellsIn) (fun x hx => HPI.out.old HP5.out.xt (fun g hg => by have := (HG5.out.base g hg).1; omega) x (List.mem_of_mem_drop hx)) (by simp only [List.length_take, List.length_drop]; omega) 29
  have hx8 : Xt w w8 := HP5.out.xt.grownB hg8 (fun m hm => by have := (HG5.out.base m (by first | exact hm | exact hm.symm)).1; omega)
  have HX8 := Lib.hid hx8
  obtain ⟨L8, hL8⟩ : ∃ n, (l.take lo ++ l.drop (lo + 1)).length = n := ⟨_, rfl⟩
  obtain ⟨a8, k8, rfl, _, _⟩ := hG8.own.slice hL8
  clear hL8
  have HG8 := Lib.hid hG8
  have o8 := (hx8.block _ H.out.lt).trans HOB.out
  have c8 : w8.cell? ⟨rb, 0, none⟩ = some (.slice la l.length lc) := (by simp [World.cell?, o8])
  have f8 : w8.frozen? ⟨rb, 0, none⟩ = false := (by simp [World.frozen?, o8])
  clear o8 hx8 hG8 hg8 hsz5 hs1
  go_wp2_with (first
    | (at_builtin; refine Lib.wpList_append_run _ rfl _ _ _ _ rfl _ _ rfl rfl _ _ hp8 ?_; clear hp8))
  go_ret
  have hdel := HPOS.out.del H.out.sorted
  simp only [if_true] at hdel
  obtain ⟨d1, d2⟩ := DG.stored H.out HX8.out (by have := H.out.lt; omega) HG8.out (by rw [hdel]; exact sorted_delM a H.out.sorted) (by simp only [List.length_append, List.length_take, List.length_drop]; omega) (fun x hx => H.out.small x (by rcases List.mem_append.1 hx with q | q; exact List.mem_of_mem_take q; exact List.mem_of_mem_drop q))
  exact ⟨rfl, _, d1, hdel, d2⟩

/-- What was told is the next put of the list. -/
theorem told_next {M : GM} {wb : Ad → Bool} {k : List PI} (hk : pis k = (er M).filter (fun y => wb y.1)) {pre : List TE} {x : TE} {i : Nat} (h : toldS (M.take i) wb (pre ++ [x])) : ∃ y, k[pre.length]? = some y ∧ y.a = x.1 ∧ y.c = x.2.1 ∧ (x.1, x.2.1) ∈ er M := by
  have h1 : (pre ++ [x]).map (fun x : TE => (x.1, x.2.1)) = ((er M).take i).filter (fun y => wb y.1) := by
    rw [show (pre ++ [x]).map (fun x : TE => (x.1, x.2.1)) = _ from h]
    unfold er
    rw [← List.map_take, List.filter_map]
    rfl
  have h2 : ((er M).take i).filter (fun y => wb y.1) <+: pis k := by rw [hk]; exact (List.take_prefix i (er M)).filter _
  rw [← h1] at h2
  have h3 : ((pre ++ [x]).map (fun x : TE => (x.1, x.2.1)))[pre.length]? = some (x.1, x.2.1) := by
    rw [List.map_append, List.getElem?_append_right (by simp)]; simp
  have h4 : (pis k)[pre.length]? = some (x.1, x.2.1) := by
    obtain ⟨r, hr⟩ := h2
    rw [← hr, List.getElem?_append_left (by simp)]
    exact h3
  have hm : (x.1, x.2.1) ∈ er M := by
    have := List.mem_of_getElem? h4
    rw [hk] at this
    exact (List.mem_filter.1 this).1
  unfold pis at h4
  rw [List.getElem?_map] at h4
  obtain ⟨y, hy, e⟩ := Option.map_eq_some_iff.1 h4
  exact ⟨y, hy, congrArg Prod.fst e, congrArg Prod.snd e, hm⟩
/-- What an owner writes over leaves all else. -/
theorem OvW.kept {S : Nat → Prop} {W W' : World} (h : OvW S W W') {k : Nat} {o : Obj} (hk : W.heap[k]? = some o) (ho : ∀ cur fz, o ≠ .cells cur 44 fz) (hS : ∀ b, S b → ∃ cur, W.heap[b]? = some (.cells cur 44 (0, 0))) : W'.heap[k]? = some o :=
  (h.block k (Array.getElem?_eq_some_iff.1 hk).1 fun hs => by obtain ⟨cur, hc⟩ := hS k hs; rw [hk] at hc; cases hc; exact ho _ _ rfl).trans hk
theorem OvW.keepsT {S : Nat → Prop} {W W' : World} (h : OvW S W W') (hS : ∀ b, S b → ∃ cur, W.heap[b]? = some (.cells cur 44 (0, 0))) : KeepsT (fun _ => false) W W' :=
  ⟨h.size, fun k o hk ho => h.kept hk (fun cur fz e => by rw [e] at ho; revert ho; simp [keptO]) hS⟩
theorem OvW.from {S : Nat → Prop} {W W' : World} (h : OvW S W W') (hS : ∀ b, S b → ∃ cur, W.heap[b]? = some (.cells cur 44 (0, 0))) (B : Nat) : KeepsFrom B W W' :=
  ⟨h.size, fun k o _ hk ho => h.kept hk (fun cur fz e => by rw [e] at ho; cases ho) hS⟩
theorem OvW.below {S : Nat → Prop} {W W' : World} (h : OvW S W W') {B : Nat} (hB : B ≤ W.heap.size) (hS : ∀ b, S b → B ≤ b) : Below B W W' :=
  ⟨h.os, h.tape, h.output, h.size, fun k hk => h.block k (by omega) (fun hs => by have := hS k hs; omega)⟩
/-- The row of a content. -/
abbrev rowC21 (c : ContT) (p : Option Addr) : Array Value := (ceC (c, p)).toArray
theorem rowC21_node {w : World} {B : Nat} {c : ContT} {p : Option Addr} (h : w.heap[B]? = some (.cells (rowC21 c p) 46 (0, 0))) : w.rangeAt B 6 (nodeC c.t (.slice p c.t.args.length c.t.args.length)) := fun j u hu => by
  have e : (rowC21 c p)[6 + j]? = some u := by
    rw [List.getElem?_toArray, ← List.getElem?_drop]
    exact hu
  simpa [World.cell?, h] using e
theorem copy_args {c : ContT} (h : copyC c = c) : copyL c.t.args = c.t.args := by
  have := congrArg (fun c => c.t.args) h
  simp only [copyC] at this
  rwa [copyT_args] at this
theorem copy_val {c : ContT} {p : Option Addr} (h : copyC c = c) : copyCV c p = ceV (c, p) := by
  have := (ceV_copy c p).symm
  rw [h] at this
  exact this
set_option maxRecDepth 100000 in
set_option maxHeartbeats 1000000 in
theorem told_any (wf : Nat) (wl : Array Value) (ew : ∀ args w, (callFunc wf args).run Tryz.prog w = .ok (.enter wf args) w) (wb : Ad → Bool) (w : World) (Wk : World → Prop) (hWk : ∀ W W', Wk W → Below w.heap.size W W' → Wk W') (hwant : ∀ (a : Ad) (W : World), Wk W → Calls Tryz.prog wf (#[adW a] ++ wl) W fun e W' => e = .returned (.bool (wb a)) ∧ Gr W W')
    (Bg Bw gb mb : Nat) (M : GM) (kv : Value) (k : List PI) (leave : Int) (hG : GridIs w gb mb M) (hOK : GOk (er M)) (hk : PutsIn w kv k) (hkm : pis k = (er M).filter (fun y => wb y.1)) (hcg : w.cell? ⟨Bg, 0, none⟩ = some (.pointer (some ⟨gb, 0, none⟩))) (hcw : w.heap[Bw]? = some (.cells #[.func (.func wf) #[] wl] 86 (0, 0))) (hWkw : Wk w) :
    Calls Tryz.prog 8 #[.func (.func 59) #[] #[.pointer (some ⟨Bg, 0, none⟩), .pointer (some ⟨Bw, 0, none⟩)], kv, .int .i64 leave] w fun e w' => e = .returned (.bool true) ∧ Xt w w' := by
  obtain ⟨B, hB⟩ : ∃ B, w.heap.size = B := ⟨_, rfl⟩
  obtain ⟨ka, kc, rfl, hkc, hkc2⟩ := hk.shape
  have hkl : k.length ≤ 4096 := by
    rw [← pis_len, hkm]
    exact Nat.le_trans (List.length_filter_le ..) hOK.many
  have HG := Lib.hid hG
  have HOK := Lib.hid hOK
  have HP := Lib.hid hk
  have HKM := Lib.hid hkm
  have hbg : Bg < B := by rw [← hB]; exact World.block_lt_of_cell? w _ hcg
  have hnil := fun (W : World) (fn : Fn) (fi ca : Array Value) => run_eql_func_nil (P := Tryz.prog) W 54 _ _ _ fn fi ca Tryz.underlying54
  obtain ⟨w1, w2, e1, s1, e2, s2, HX2, HR0b, HR1b⟩ := bx2 hB #[.slice ka k.length kc] #[.int .i64 leave] 29 3
  obtain ⟨w3, e3⟩ : ∃ v, w2.alloc (.cells #[.bool false] 4) = v := ⟨_, rfl⟩
  have s3 : w3.heap.size = B + 1 + 1 + 1 := by rw [← e3]; simp [s2]
  have hx3 : Xt w2 w3 := by rw [← e3]; exact (Xt.refl _).alloc _
  have hr3 : w3.heap[B + 1 + 1]? = some (.cells #[.bool false] 4 (0, 0)) := by rw [← e3, ← s2]; exact (MapKept.heap_alloc w2 _).1
  obtain ⟨w4, e4⟩ : ∃ v, w3.alloc (.cells #[.int .i64 0] 3) = v := ⟨_, rfl⟩
  have s4 : w4.heap.size = B + 1 + 1 + 1 + 1 := by rw [← e4]; simp [s3]
  have hx4 : Xt w3 w4 := by rw [← e4]; exact (Xt.refl _).alloc _
  have HX4 : Hid (Xt w w4) := HX2.out.trans (hx3.trans hx4)
  have HR0 := Lib.hid (rowX (hx3.trans hx4) HR0b.out)
  have HR1 := Lib.hid (rowX (hx3.trans hx4) HR1b.out)
  have HR2 := Lib.hid (rowX hx4 hr3)
  have HR3 : Hid (w4.heap[B + 1 + 1 + 1]? = some (.cells #[.int .i64 0] 3 (0, 0))) := by unfold Hid; rw [← e4, ← s3]; exact (MapKept.heap_alloc w3 _).1
  have HE4 := Lib.hid e4
  clear hx3 hr3 hx4 e4 HX2 HR0b HR1b
  have HcgW := Lib.hid (HX4.out.cellsIn _ _ _ hcg)
  have rBw := Lib.hid (rowX HX4.out hcw)
  have HWK := Lib.hid (hWk _ _ hWkw HX4.out)
  have HWK2 := Lib.hid hWk
  have HWANT := Lib.hid hwant
  clear hG hOK hk hkm hcg hcw hWkw hWk hwant
  refine (callsIn_wide (n := 25)).1 ?_
  refine callsIn_of_wp_marks Tryz.func8 rfl trivial ?_ rfl
  simp only [Tryz.ntmps8, List.size_toArray, List.length_cons, List.length_nil, Nat.reduceAdd, Nat.reduceSub, Array.replicate_succ, Array.replicate_zero, List.push_toArray, List.append_toArray, List.nil_append, List.cons_append]
  refine wpIn_wide.2 ?_
  refine wp_mono (Q := noPanic (bodyPostM Fence.wide 25 Tryz.prog Tryz.f8 (fun e w' => e = .returned (.bool true) ∧ Xt w w'))) ?_ noPanic_le
  go_upto_region 4 with fail
  have e4 := HE4.out
  simp only [e4]
  clear e4 HE4
  go_wp2_with fail
  generalize hA0 : Act.mk _ _ = a0
  refine (wpIn_wide (n := 25)).1 ?_
  refine rangeFunc_tolp (n := 25) (by omega) (gf := 59) (lb := #[.pointer (some ⟨Bg, 0, none⟩), .pointer (some ⟨Bw, 0, none⟩)]) (by subst hA0; rfl) (enters_of Tryz.func59 (by kernel_rfl) rfl)
    (some1_tolp (fun _ => false) wf wl ew wb w.heap.size (Below w.heap.size) (fun h hx => hx.mono h) Below.trans Wk (fun W W' h hR _ => HWK2.out W W' h hR) HWANT.out (25 - 1) (by omega) Bg Bw gb mb M w4 (by omega) (HG.out.xt HX4.out) (fun W' h => (HG.out.xt (Below.trans HX4.out h : Xt w W')).args) HWK.out (by omega) HcgW.out rBw.out (fun _ _ => rfl))
    (fun h k => ⟨h.1.trans k.1, h.2.trans k.2⟩) (fun W l o o' hl ho hc hw => ⟨belowK_b (w := w4) (by omega) W l o o' hl ho hc hw, KeepsT.of_grown (grownBy_putObj' W l o') (fun j o2 e h2 => by cases e; rw [ho] at h2; cases h2; cases o <;> simp_all [keptO, Obj.isCells, Obj.isWalk])⟩) (Below.refl _ _) (fun _ => rfl)
    (fun pre W => LJ w4 (B + 1 + 1 + 1) (fun (pre : List TE) => ((pre.length : Nat) : Int)) pre W)
    (fun c pre W => c = .ret ∧ Xt w W ∧ W.heap[B + 1 + 1]? = some (.cells #[.bool true] 4 (0, 0)))
    (fun s X Y row hs hg hr => LJ.own s X Y row hs hg hr)
    (fun c s X Y row hs hg hr => ⟨hs.1, hs.2.1.grownB hg (fun q hq => by have := (hr q hq).1; omega), rowCells_own hs.2.2 hg (fun r e => (hr r e).2)⟩)
    ⟨⟨rfl, rfl, rfl, Nat.le_refl _, fun _ _ _ => rfl⟩, HR3.out⟩
    (fun pre x a' W => ∃ (z : CE) (y : PI) (Bx By nT s : Nat), z = (x.2.1, x.2.2) ∧ k[pre.length]? = some y ∧ y.a = x.1 ∧ y.c = x.2.1 ∧ w4.heap.size ≤ s ∧ W.heap[Bx]? = some (.cells #[.int .i64 x.1.1, .int .i64 x.1.2] 36 (0, 0)) ∧ W.heap[By]? = some (.cells (rowC21 z.1 z.2) 46 (0, 0)) ∧ smallT z.1.t ∧ OwnIn (fun b => s ≤ b ∧ ∃ cur, W.heap[b]? = some (.cells cur 44 (0, 0))) W nT (.slice z.2 z.1.t.args.length z.1.t.args.length) z.1.t.args ∧
      a' = { tmps := (((a0.tmps.setIfInBounds 13 (adW x.1)).setIfInBounds 14 (ceV z)).setIfInBounds 8 (.pointer (some ⟨Bx, 0, none⟩))).setIfInBounds 9 (.pointer (some ⟨By, 0, none⟩)), defers := [] })
    (fun pre x a' _ (X Y : World) row hs hg hr => by
      obtain ⟨z, y, Bx, By, nT, s, e1, e2, e3, e4, e5, h1, h2, h3, h4, h5⟩ := hs
      have hk : ∀ (b : Nat), (∃ cur : Array Value, X.heap[b]? = some (Obj.cells cur 44 (0, 0))) → Y.heap[b]? = X.heap[b]? := by
        rintro b ⟨cur, hc⟩
        rw [hc]; exact rowCells_own hc hg (fun r e => (hr r e).2)
      exact ⟨z, y, Bx, By, nT, s, e1, e2, e3, e4, e5, rowCells_own h1 hg (fun r e => (hr r e).2), rowCells_own h2 hg (fun r e => (hr r e).2), h3, h4.keep (fun b hb _ => ⟨hb.1, by rw [hk b hb.2]; exact hb.2⟩) (fun b hb _ => hk b hb.2), h5⟩)
    ?assign ?body ?done ?stop
  case stop =>
    rintro D c pre W hD hSp ⟨rfl, hxW, k2⟩ hK
    subst hA0
    refine (wpIn_wide (n := 25)).2 ?_
    go_wp2_with fail
    refine ⟨by simp, .inl ⟨_, _, rfl, run_takeDeferred hK, ?_⟩⟩
    have k2' : (W.putObj D (.deferred none)).heap[B + 1 + 1]? = some (.cells #[.bool true] 4 (0, 0)) := (World.putObj_heap_other (by omega)).trans k2
    exact ⟨_, results_one6 rfl _ _ (B + 1 + 1) (.bool true) rfl (load_bool6 _ _ _ (one_row k2').1), rfl, hxW.grownB (grownBy_putObj' W D _) (fun q hq => by cases hq; omega)⟩
  case done =>
    rintro D xs W hD hS hI hK
    subst hA0
    have hn : xs.length = k.length := by
      have h1 := congrArg List.length hS
      have h2 := congrArg List.length HKM.out
      rw [pis_len] at h2
      unfold er at h2
      rw [List.filter_map, List.length_map] at h2
      rw [List.length_map, List.length_map] at h1
      rw [h1, h2]; rfl
    obtain ⟨hgr, hcn⟩ := hI
    simp only [hn] at hcn
    have hr0 := (hgr.block B (by omega) (fun e => by have := Option.some.inj e; omega)).trans HR0.out
    have hr2 := (hgr.block (B + 1 + 1) (by omega) (fun e => by have := Option.some.inj e; omega)).trans HR2.out
    obtain ⟨c0, _⟩ := one_row hr0
    obtain ⟨c2, f2⟩ := one_row hr2
    obtain ⟨cn, _⟩ := one_row hcn
    have HK := Lib.hid hK
    have HXE : Hid (Xt w W) := HX4.out.grownB hgr (fun q hq => by cases hq; omega)
    clear hgr hK hS hr0 hr2 hcn hn
    go_wp2_with fail
    obtain ⟨W', hW'⟩ : ∃ W', (W.setCell ⟨B + 1 + 1, 0, none⟩ (.bool true)) = W' := ⟨_, rfl⟩
    have k1 : W'.cell? ⟨B + 1 + 1, 0, none⟩ = some (.bool true) := by rw [← hW']; exact World.cell?_setCell_same _ _ _ c2
    have hKW : W'.heap[D]? = some (.deferred (some [])) := by rw [← hW']; exact (Below.heap_setCell _ _ _ _ (fun e => by simp at e; omega)).trans HK.out
    have hxE : Xt w (W'.putObj D (.deferred none)) := by
      rw [← hW']
      exact (HXE.out.grownB (setCell_grown _ _ _ _) (fun q hq => by cases hq; omega)).grownB (grownBy_putObj' _ D _) (fun q hq => by cases hq; omega)
    have k8' : (W'.putObj D (.deferred none)).cell? ⟨B + 1 + 1, 0, none⟩ = some (.bool true) := (World.cell?_of_block (w := W') (a := ⟨B + 1 + 1, 0, none⟩) (World.putObj_heap_other (by show B + 1 + 1 ≠ D; omega))).trans k1
    rw [hW']
    refine ⟨by simp, .inl ⟨_, _, rfl, run_takeDeferred hKW, ?_⟩⟩
    exact ⟨_, results_one6 rfl _ _ (B + 1 + 1) (.bool true) rfl (load_bool6 _ _ _ k8'), rfl, hxE⟩
  case assign =>
    rintro l0 pre x W K hI ⟨V, hIV, hxV, hsm, ⟨nT, hO⟩, i, hT⟩ hK
    subst hA0
    obtain ⟨y, hy, hya, hyc, hmem⟩ := told_next HKM.out hT
    obtain ⟨⟨c, d⟩, tc, tp⟩ := x
    have hcz : copyC tc = tc := (HOK.out.each _ hmem).2.2.2.1
    obtain ⟨z, hz⟩ : ∃ z : CE, z = (tc, tp) := ⟨_, rfl⟩
    have hzv : copyCV tc tp = ceV z := by rw [hz]; exact copy_val hcz
    have hOz : OwnIn (fun b => V.heap.size ≤ b ∧ ∃ cur, W.heap[b]? = some (.cells cur 44 (0, 0))) W nT (.slice z.2 z.1.t.args.length z.1.t.args.length) z.1.t.args := by
      rw [hz]
      simp only [copy_args hcz] at hO
      exact hO.rows
    have hVs : w4.heap.size ≤ V.heap.size := hIV.grown.size
    have hsz : smallT z.1.t := by rw [hz]; exact hsm
    simp only [teV, hzv]
    have HZ := Lib.hid hz
    clear hz hzv hO hIV hsm hcz hT hmem
    obtain ⟨wA, hwA, hbA, hsA, kA0, kA1⟩ := box1 W c d 36
    obtain ⟨wZ, wR, hwZ, hwR, hrZ, hrR, hxR, hsR, hxZ, hsZ⟩ := boxR wA z
    rw [hsA] at hrZ hwR hrR
    have hrA : wA.heap[W.heap.size]? = some (.cells #[.int .i64 c, .int .i64 d] 36 (0, 0)) := by rw [← hwA]; exact World.alloc_heap_new W _
    have hxWR := Lib.hid (Xt.trans hbA hxR)
    have HRA := Lib.hid ((hxR.block _ (by omega)).trans hrA)
    have HRZ := Lib.hid hrZ
    have HRR := Lib.hid hrR
    have HWR := Lib.hid hwR
    clear hrZ hwR hrR hrA kA0 kA1 hbA hxZ hxR
    gi_wp2_with (first | (refine wpListIn_store_row (P := Tryz.prog) rfl 46 _ _ rfl (W.heap.size + 1) #[.int .i64 z.1.kind, .int .i64 z.1.v.kind, .float .f64 z.1.v.x, .string z.1.v.s, .bool z.1.v.b, .int .i64 z.1.v.f, .int .i64 z.1.t.kind, .int .i64 z.1.t.op, .float .f64 z.1.t.x, .string z.1.t.s, .bool z.1.t.b, .int .i64 z.1.t.f, .int .i64 z.1.t.ref.a.1, .int .i64 z.1.t.ref.a.2, .bool z.1.t.ref.cf, .bool z.1.t.ref.rf, .int .i64 z.1.t.to.a.1, .int .i64 z.1.t.to.a.2, .bool z.1.t.to.cf, .bool z.1.t.to.rf, .slice z.2 z.1.t.args.length z.1.t.args.length] rfl rfl 46 _ HRZ.out (by kernel_rfl) rfl (by simp [Value.oneCell']) ?_; rw [HWR.out]))
    have hx := hxWR.out
    refine hK _ _ (keepsFrom_xt hx _) ⟨hx.mono (by have := hI.grown.size; omega), KeepsT.of_xt hx⟩ ⟨grownBy_far hI.grown hx.grownN (fun r e => by cases e), rowX hx hI.cnt⟩ ?_
    refine ⟨z, y, W.heap.size, W.heap.size + 1, nT, V.heap.size, HZ.out, hy, hya, hyc, hVs, HRA.out, HRR.out, hsz, hOz.keep (fun b hb hl => ⟨hb.1, hb.2.imp fun cur hc => rowX hx hc⟩) (fun b hb hl => hx.block b hl), ?_⟩
    simp only [List.setIfInBounds_toArray, List.set_cons_zero, List.set_cons_succ]
  case body =>
    rintro l0 pre x a' W hl0 ⟨r, hr⟩ hI ⟨z, y, Bx, By, nT, s, hz, hy, hya, hyc, hs, hBx, hBy, hsm, hO, rfl⟩ hlt
    subst hA0
    obtain ⟨⟨c, d⟩, tc, tp⟩ := x
    obtain ⟨ya, yc, yp, ycap⟩ := y
    simp only at hz hya hyc hBx
    subst hya hyc
    obtain ⟨hgr, hcn⟩ := hI
    have HCN := Lib.hid hcn
    have HGR := Lib.hid hgr
    have hgs0 := hgr.size
    have hr0 := (hgr.block B (by omega) (fun e => by have := Option.some.inj e; omega)).trans HR0.out
    have HR1W := Lib.hid ((hgr.block (B + 1) (by omega) (fun e => by have := Option.some.inj e; omega)).trans HR1.out)
    have HR2W := Lib.hid ((hgr.block (B + 1 + 1) (by omega) (fun e => by have := Option.some.inj e; omega)).trans HR2.out)
    have HXg : Hid (Xt w W) := HX4.out.grownB hgr (fun q hq => by cases hq; omega)
    obtain ⟨b, off, rfl, q0, q1, q2, hok, n0, hin⟩ := (HP.out.xt HXg.out).at hy
    simp only at q0 q1 hin
    obtain ⟨n, hn⟩ : ∃ n, pre.length = n := ⟨_, rfl⟩
    simp only [hn] at hcn hy q0 q1 q2
    have hnk := (List.getElem?_eq_some_iff.1 hy).1
    have hlt0 : ¬ (k.length : Int) ≤ (n : Int) := by omega
    obtain ⟨c0, _⟩ := one_row hr0
    obtain ⟨cn, _⟩ := one_row hcn
    obtain ⟨x0, x1, _, _⟩ := cells2 hBx
    have HBY := Lib.hid hBy
    have HXD : Hid (Xt W W.drew) := (Xt.refl W).drew
    have HF : Hid (∀ V, Xt W V → V.cell? ⟨B + 1 + 1 + 1, 0, none⟩ = some (.int .i64 n) ∧ V.cell? ⟨B, 0, none⟩ = some (.slice (some ⟨b, off, none⟩) k.length kc) ∧ V.cell? ⟨Bx, 0, none⟩ = some (.int .i64 c) ∧ V.cell? ⟨Bx, 1, none⟩ = some (.int .i64 d) ∧ V.cell? ⟨b, off + n * 23, none⟩ = some (.int .i64 c) ∧ V.cell? ⟨b, off + n * 23 + 1, none⟩ = some (.int .i64 d)) := Lib.hid fun V hV => ⟨hV.cellsIn _ _ _ cn, hV.cellsIn _ _ _ c0, hV.cellsIn _ _ _ x0, hV.cellsIn _ _ _ x1, hV.cellsIn _ _ _ q0, hV.cellsIn _ _ _ q1⟩
    have HFR : Hid (∀ V, Xt W V → V.rangeAt b (off + n * 23 + 2) ((inC1 ⟨(c, d), yc, yp, ycap⟩).drop 2)) := Lib.hid fun V hV j u hu => hV.cellsIn _ _ _ (q2 j u hu)
    have hz1 : z.1 = yc := by rw [hz]
    have HJ := Lib.hid (just_any (nT + n0) z.1 yc z.2 yp z.1.t.args.length ycap W.drew (ArgsIn.upQ (Nat.le_add_right _ _) (hO.args.xt HXD.out)) (ArgsIn.upQ (Nat.le_add_left _ _) (hin.xt HXD.out)))
    rw [show eqCB z.1 yc = true from (eqCB_iff _ _).2 hz1] at HJ
    have HO := Lib.hid hO
    have HSM := Lib.hid hsm
    have HN := Lib.hid hn
    clear hr hgr hcn hBx hBy hz hsm hO hr0 c0 cn x0 x1 q0 q1 q2 hok hin hn hz1 hlt hy
    simp only [List.setIfInBounds_toArray, List.set_cons_zero, List.set_cons_succ]
    gi_wp2_with fail
    refine region_round (S := fun V => Xt W V) (by kernel_rfl) (by kernel_rfl) (fun _ _ h => h) HXD.out (fun hHeld => ?_)
    refine tk HF.out 0 ?_
    refine tk HF.out 1 ?_
    refine tk HF.out 2 ?_
    refine tkH 3 (.bool false) ?_ ?_
    · intro V hSw; go_simp; first | done | omega | (simp; omega)
    try simp only [Act.put, nm]
    refine tk HF.out 4 ?_
    refine tk HF.out 5 ?_
    refine tk HF.out 6 ?_
    refine tk HF.out 7 ?_
    refine tk HF.out 8 ?_
    refine tk HF.out 9 ?_
    refine tk HF.out 10 ?_
    refine tk HF.out 11 ?_
    refine tk HF.out 12 ?_
    refine tk HF.out 13 ?_
    refine tkH 14 (.agg (rowC21 z.1 z.2)) ?_ ?_
    · intro V hSw; exact exec_load_row 46 _ (by rfl) By (by rfl) 46 _ (0, 0) _ (rowX hSw HBY.out) Tryz.underlying46 rfl (by kernel_rfl)
    try simp only [Act.put, nm]
    refine tk HF.out 15 ?_
    refine tk HF.out 16 ?_
    refine tk HF.out 17 ?_
    refine tk HF.out 18 ?_
    refine tkH 19 (.agg ((inC1 ⟨(c, d), yc, yp, ycap⟩).drop 2).toArray) ?_ ?_
    · intro V hSw; exact exec_load_mid 46 _ (by rfl) b (off + n * 23 + 2) (by rfl) ((inC1 ⟨(c, d), yc, yp, ycap⟩).drop 2) _ (HFR.out V hSw) Tryz.underlying46 rfl (by kernel_rfl)
    try simp only [Act.put, nm]
    refine rdH 20 fun K hK => ?_
    go_simp
    refine (HJ.out).mono ?_
    rintro e w7 ⟨rfl, hg7⟩
    have HX7 := Lib.hid (HXD.out.trans hg7.xt)
    refine ko hK HX7.out fun hHe => ?_
    clear hK K hg7
    refine tk HF.out 21 ?_
    refine tk HF.out 22 ?_
    refine wpAnyH_done (by kernel_rfl) ?_ _
    clear hHe hHeld HJ
    have HCW : Hid (W.heap[B + 1 + 1 + 1]? = some (.cells #[.int .i64 n] 3 (0, 0))) := Lib.hid (by have := HCN.out; rw [HN.out] at this; exact this)
    have HS7 : Hid (∀ b, (s ≤ b ∧ ∃ cur, W.heap[b]? = some (.cells cur 44 (0, 0))) → ∃ cur, w7.heap[b]? = some (.cells cur 44 (0, 0))) := Lib.hid fun b hb => hb.2.imp fun cur hc => rowX HX7.out hc
    have HOV := Lib.hid (over_any nT (fun b => s ≤ b ∧ ∃ cur, W.heap[b]? = some (.cells cur 44 (0, 0))) z.1.t z.2 z.1.t.args.length z.1.t.args.length w7 (fun b hb => let ⟨_, hc⟩ := HS7.out b hb; (Array.getElem?_eq_some_iff.1 hc).1) (OwnIn.ov (smallT_args HSM.out) (HO.out.keep (fun b hb _ => hb) (fun b _ hlt => HX7.out.block b hlt))))
    have HR6 := Lib.hid (rowC21_node (rowX HX7.out HBY.out))
    have HC8 : Hid (∀ V, OvW (fun b => s ≤ b ∧ ∃ cur, W.heap[b]? = some (.cells cur 44 (0, 0))) w7 V → V.heap[B + 1 + 1 + 1]? = some (.cells #[.int .i64 n] 3 (0, 0)) ∧ V.heap[B + 1]? = some (.cells #[.int .i64 leave] 3 (0, 0)) ∧ V.heap[B + 1 + 1]? = some (.cells #[.bool false] 4 (0, 0))) := Lib.hid fun V hV => ⟨hV.kept (rowX HX7.out HCW.out) (fun _ _ e => by cases e) HS7.out, hV.kept (rowX HX7.out HR1W.out) (fun _ _ e => by cases e) HS7.out, hV.kept (rowX HX7.out HR2W.out) (fun _ _ e => by cases e) HS7.out⟩
    have hadd : IntKind.i64.wrap ((n : Int) + 1) = (n : Int) + 1 := by rw [IntKind.wrap_i64]; omega
    have hf : Fence.wide.fn 20 := trivial
    gi_wp2_with (first
      | (refine wpListIn_load_mid (P := Tryz.prog) rfl 44 _ rfl By 6 rfl (nodeC z.1.t (.slice z.2 z.1.t.args.length z.1.t.args.length)) _ HR6.out Tryz.underlying44 rfl (by kernel_rfl) ?_)
      | (gi_at_call 20; refine (callsIn_round HOV.out).mono ?_; rintro e w8 ⟨rfl, hw8⟩; have HW8 := Lib.hid hw8; obtain ⟨cn8, fn8⟩ := one_row (HC8.out _ hw8).1; obtain ⟨c18, f18⟩ := one_row (HC8.out _ hw8).2.1; obtain ⟨c28, f28⟩ := one_row (HC8.out _ hw8).2.2; clear hw8))
    all_goals
      have hC8 := HC8.out _ HW8.out
      have hz8 := HW8.out.size
      have hz7 := HX7.out.size
      have hSB : ∀ b, (s ≤ b ∧ ∃ cur : Array Value, W.heap[b]? = some (Obj.cells cur 44 (0, 0))) → w.heap.size ≤ b := fun b hb => by have := hb.1; omega
      have hKF : KeepsFrom w4.heap.size W (w8.setCell ⟨B + 1 + 1 + 1, 0, none⟩ (.int .i64 ((n : Int) + 1))) := ((keepsFrom_xt HX7.out _).trans (HW8.out.from HS7.out _)).trans (KeepsFrom.of_grownBy (setCell_grown _ _ _ _) (fun j e => by cases e; omega))
      have hx8 : Xt w w8 := Below.trans (HXg.out.trans HX7.out) (HW8.out.below (by omega) hSB)
      have hx9 : Xt w (w8.setCell ⟨B + 1 + 1 + 1, 0, none⟩ (.int .i64 ((n : Int) + 1))) := hx8.grownB (setCell_grown _ _ _ _) (fun q hq => by cases hq; omega)
    · have hr9 : (w8.setCell ⟨B + 1 + 1 + 1, 0, none⟩ (.int .i64 ((n : Int) + 1))).heap[B + 1 + 1]? = some (.cells #[.bool false] 4 (0, 0)) := (Below.heap_setCell _ _ _ _ (by show B + 1 + 1 ≠ B + 1 + 1 + 1; omega)).trans hC8.2.2
      exact ⟨hKF.trans (KeepsFrom.of_grownBy (setCell_grown _ _ _ _) (fun j e => by cases e; omega)), rfl, hx9.grownB (setCell_grown _ _ _ _) (fun q hq => by cases hq; omega), setCell_row hr9 0 _⟩
    · have hg9 : w4.grownBy (w8.setCell ⟨B + 1 + 1 + 1, 0, none⟩ (.int .i64 ((n : Int) + 1))) (some (B + 1 + 1 + 1)) := by
        have h := HGR.out
        have h7 := HX7.out
        have h8 := HW8.out
        refine ⟨h8.os.trans (h7.os.trans h.os), h8.tape.trans (h7.tape.trans h.tape), h8.output.trans (h7.output.trans h.output), Nat.le_trans (show w4.heap.size ≤ w8.heap.size by omega) (by simp), fun i hi hn => ?_⟩
        have hiR : i ≠ B + 1 + 1 + 1 := fun e => hn (by rw [e])
        exact (Below.heap_setCell _ _ _ _ (by simpa using hiR)).trans ((h8.block i (by omega) (fun hb => by have := hb.1; omega)).trans ((h7.block i (by omega)).trans (h.block i hi hn)))
      refine ⟨hKF, ⟨?_, ?_⟩, ⟨hg9, ?_⟩⟩
      · exact Below.trans (Below.trans (HX7.out.mono (by omega)) (HW8.out.below (by omega) hSB)) ((Below.refl w.heap.size w8).grown (setCell_grown _ _ _ _) (by omega) (fun q e => by cases e; omega))
      · exact (KeepsT.of_xt HX7.out).trans ((HW8.out.keepsT HS7.out).trans (KeepsT.of_grown (setCell_grown _ _ _ _) (fun j o e ho => by cases e; rw [hC8.1] at ho; cases ho; rfl)))
      · have := setCell_row hC8.1 0 (.int .i64 ((n : Int) + 1))
        rw [List.length_append, HN.out]
        exact this
end
end Go.Proofs.YtideclfpbpjebaaGreatDoor
