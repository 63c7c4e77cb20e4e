import Derived.Test.YtideclfpbpjebaaGreatDoorB22
import Derived.Deep.RegionHeld3
import Derived.Deep.MidRow
import Derived.Test.YtideclfpbpjebaaGreatDoorB25
import Derived.Test.YtideclfpbpjebaaGreatDoorB24
namespace Go.Proofs.YtideclfpbpjebaaGreatDoor
section
open Go.RowKit Go.Sort Go.Maps

/-! ### maps.Copy (made by mk48.py) -/
theorem grown_on {a b c : World} {m : Nat} {r : Option Nat} (h : a.grownBy b (some m)) (k : b.grownBy c r) (hr : ∀ j, r = some j → j = m ∨ a.heap.size ≤ j) : a.grownBy c (some m) :=
  ⟨k.os.trans h.os, k.tape.trans h.tape, k.output.trans h.output, Nat.le_trans h.size k.size, fun i hi hne => (k.block i (Nat.lt_of_lt_of_le hi h.size) (fun e => by
    rcases hr i e.symm with rfl | h2
    · exact hne rfl
    · omega)).trans (h.block i hi hne)⟩
theorem grown_xt {a b c : World} {m : Nat} (h : a.grownBy b (some m)) (k : Xt b c) : a.grownBy c (some m) := grown_on h (k.grown none) (fun j e => by cases e)
set_option maxRecDepth 100000 in
set_option maxHeartbeats 4000000 in
theorem mcopy_any (bd b2 : Nat) (Ed : List (Ad × Value)) (M2 : GM) (w : World) (hne : bd ≠ b2) (hd : MapIs w bd Ed) (h2 : MapG w b2 M2) :
    Calls Tryz.prog 52 #[.map (some bd), .map (some b2)] w fun e w' => (∃ v, e = .returned v) ∧ (∃ E', MapIs w' bd E' ∧ ∀ a, (lk a E').isSome = ((lk a Ed).isSome || (lkM a M2).isSome)) ∧ w.grownBy w' (some bd) := by
  have H2 := Lib.hid h2
  have HD := Lib.hid hd
  obtain ⟨E2, hm2, he2, hl2, hp2⟩ := h2.map
  have HE2 := Lib.hid he2
  have HP2 := Lib.hid hp2
  have HND := Lib.hid hm2.nodup
  clear h2 he2 hl2 hp2 hd
  go_enter Tryz.func52, Tryz.ntmps52
  go_wp2_with (first | (at_range; refine wpList_range_it _ rfl _ 66 36 46 rfl Tryz.underlying66 b2 E2 rfl hm2 ?_; intro w2 hI hg2 hs2; go_frame))
  have HX2 : Hid (w.grownBy w2 (some bd)) := hg2.xt.grown _
  have hMD : MapIs w2 bd Ed := HD.out.of_heap (hg2.xt.block bd HD.out.lt)
  obtain ⟨r, hr⟩ : ∃ r, w.heap.size = r := ⟨_, rfl⟩
  rw [hr] at hI hs2 ⊢
  have HR := Lib.hid hr
  clear hr hg2 hs2 hm2
  go_loopg [8] E2.length (fun k _ wr => ∃ left cur ks E', left.length = k ∧ Hid ((ks ++ left.map (·.1)).Perm (E2.map (·.1))) ∧ Hid (∀ x ∈ left, x ∈ E2) ∧ IterIs wr r b2 E2 left cur ∧ MapIs wr bd E' ∧ Hid (∀ a, (lk a E').isSome = ((lk a Ed).isSome || decide (a ∈ ks))) ∧ Hid (w.grownBy wr (some bd)))
  case atStart => exact ⟨E2, none, [], Ed, rfl, by unfold Hid; simp, fun _ h => h, hI, hMD, fun a => by simp, HX2⟩
  case round =>
    clear HX2 hI hMD
    obtain ⟨left, cur, ks, E', rfl, HP, HIN, hI1, hMD, HOK, HX⟩ := hrel
    go_wp2_with (at_next; refine wpList_next_it _ rfl _ rfl _ _ _ _ _ rfl hI1 ?_ ?_)
    · intro hdone
      subst hdone
      go_wp2_with fail
      go_end0
      have hp := HP.out
      simp only [List.map_nil, List.append_nil] at hp
      refine ⟨⟨_, rfl⟩, ⟨E', hMD, fun a => ?_⟩, HX.out⟩
      rw [HOK.out a]
      congr 1
      rw [Bool.eq_iff_iff, decide_eq_true_eq, lkM_mem_iff]
      exact hp.mem_iff.trans HP2.out.mem_iff
    · intro c d v l1 l2 w3 hl hI2 hg3 hs3 hen
      have HL3 := Lib.hid hl
      have HP' : Hid (((ks ++ [(c, d)]) ++ (l1 ++ l2).map (·.1)).Perm (E2.map (·.1))) := by
        refine List.Perm.trans ?_ HP.out
        rw [hl]
        simp only [List.map_append, List.map_cons, List.append_assoc, List.singleton_append]
        exact List.Perm.append_left _ List.perm_middle.symm
      have HIN' : Hid (∀ x ∈ l1 ++ l2, x ∈ E2) := fun x hx => HIN.out x (by rw [hl]; rcases List.mem_append.1 hx with h | h <;> simp [h])
      have hlk : lk (c, d) E2 = some v := lk_in HND.out (HIN.out _ (by rw [hl]; simp))
      rw [HE2.out] at hlk
      obtain ⟨x, hx, rfl⟩ := Option.map_eq_some_iff.1 hlk
      have hgw3 : w.grownBy w3 (some bd) := grown_on HX.out hg3 (fun j e => by cases e; right; rw [HR.out]; exact Nat.le_refl _)
      have hM3 : MapIs w3 bd E' := hMD.of_heap (hg3.block bd hMD.lt (fun e => by cases e; have := HD.out.lt; have := HR.out; omega))
      obtain ⟨wA, hwA, hbA, hsA, kA0, kA1⟩ := box1 w3 c d 36
      obtain ⟨wZ, wB, hwZ, hwB, hrZ, hrB, hxB1, hsB, hxZ, hsZ⟩ := boxR wA x
      rw [hsA] at hrZ hrB hwB hsB
      have hxB : Xt w3 wB := by refine Xt.trans ?_ hxB1; rw [← hwA]; exact (Xt.refl w3).alloc _
      have kB0 : wB.cell? ⟨w3.heap.size, 0, none⟩ = some (.int .i64 c) := ((hxB1.cells).1 _ 0 (by omega)).trans kA0
      have kB1 : wB.cell? ⟨w3.heap.size, 1, none⟩ = some (.int .i64 d) := ((hxB1.cells).1 _ 1 (by omega)).trans kA1
      have hMB : MapIs wB bd E' := hM3.of_heap (hxB.block bd hM3.lt)
      have hIB := hI2.of_heap (w' := wB) (hxB.block b2 hI2.map.lt) (hxB.block r hI2.lt)
      have HGB : Hid (w.grownBy wB (some bd)) := grown_xt hgw3 hxB
      have HRZ := Lib.hid hrZ
      have HRB := Lib.hid hrB
      have HWB := Lib.hid hwB
      clear hl hI1 hs3 hg3 hlk HIN HP hMD hM3 hgw3 hbA kA0 kA1 hrZ hwB hxB1 hxZ hI2 hxB hrB hx
      go_wp2_with (first
        | (refine wpList_store_row (P := Tryz.prog) rfl 46 _ _ rfl (w3.heap.size + 1) #[.int .i64 x.1.kind, .int .i64 x.1.v.kind, .float .f64 x.1.v.x, .string x.1.v.s, .bool x.1.v.b, .int .i64 x.1.v.f, .int .i64 x.1.t.kind, .int .i64 x.1.t.op, .float .f64 x.1.t.x, .string x.1.t.s, .bool x.1.t.b, .int .i64 x.1.t.f, .int .i64 x.1.t.ref.a.1, .int .i64 x.1.t.ref.a.2, .bool x.1.t.ref.cf, .bool x.1.t.ref.rf, .int .i64 x.1.t.to.a.1, .int .i64 x.1.t.to.a.2, .bool x.1.t.to.cf, .bool x.1.t.to.rf, .slice x.2 x.1.t.args.length x.1.t.args.length] rfl rfl 46 _ HRZ.out (by kernel_rfl) rfl (by simp [Value.oneCell']) ?_; rw [HWB.out])
        | (refine BigFrame.wpList_want (by rfl) (fun K hK => wp_load_row 46 _ rfl (w3.heap.size + 1) rfl 46 _ (0, 0) _ HRB.out Tryz.underlying46 rfl (by kernel_rfl) (hK _ _ ?_)); clear hK K)
        | (at_mapUpdate; refine wpList_update_it _ rfl _ _ _ 66 36 46 rfl adrKey Tryz.underlying66 bd E' rfl c d rfl _ rfl hMB ?_; intro w6 hM6 hg6 hs6))
      have hI6 := hIB.of_heap (w' := w6) (hg6.block b2 hIB.map.lt (fun e => by cases e; exact hne rfl)) (hg6.block r hIB.lt (fun e => by cases e; have := HD.out.lt; have := HR.out; omega))
      go_roundg (l1 ++ l2).length
      case rel =>
        refine ⟨l1 ++ l2, _, ks ++ [(c, d)], _, rfl, HP', HIN', hI6, hM6, fun a => ?_, grown_on HGB.out hg6 (fun j e => by cases e; exact Or.inl rfl)⟩
        rw [lk_up]
        by_cases ha : (c, d) = a
        · subst ha; simp
        · rw [if_neg ha, HOK.out a]
          have : ¬ a = (c, d) := fun e => ha e.symm
          simp [this]
      case measure => rw [HL3.out]; simp
end
section
open Go.RowKit Go.Sort Go.Maps Go.Shelf

theorem GridIs.lookAt {w : World} {gb mb : Nat} {M : GM} (h : GridIs w gb mb M) : ∃ E, MapIs w mb E ∧ ∀ W, MapIs W mb E → ∀ a : Ad, (Instr.lookup 66 (.map (some mb)) (.agg #[.int .i64 a.1, .int .i64 a.2]) false).run Tryz.prog W = .ok (ceV (getM M a)) W := by
  obtain ⟨E, hm, he⟩ := h.map
  refine ⟨E, hm, fun W hW a => ?_⟩
  have := hW.lookup (P := Tryz.prog) (t := 66) (k := 36) (e := 46) adrKey Tryz.underlying66 zeroCon a
  rw [he a] at this
  unfold getM
  cases hl : lkM a M with
  | none => rw [hl] at this; exact this
  | some x => rw [hl] at this; exact this
theorem clipPut_any (a : Option Addr) (n cap : Nat) (w : World) (h : n ≤ cap) (_hc : cap ≤ 9223372036854775807) : Calls Tryz.prog 56 #[.slice a n cap] w fun e w' => e = .returned (.slice a n n) ∧ w = w' := by
  go_enter Tryz.func56, Tryz.ntmps56
  go_wp2
  all_goals (go_ret; exact ⟨by simp, rfl⟩)
theorem sortedKeys_any (wb : World) (b : Nat) (E : List (Ad × Value)) (U : List Ad) (hm : MapIs wb b E) (hU : U.Pairwise (fun x y => adLt x y = true)) (hmem : ∀ a, a ∈ U ↔ (lk a E).isSome = true) (hl : U.length ≤ 8192) :
    Calls Tryz.prog 53 #[.func (.func 80) #[] #[.pointer (some ⟨wb.heap.size, 0, none⟩)], .func (.func 55) #[] #[]] (wb.alloc (.cells #[.map (some b)] 66)) fun e w' => ∃ a c, e = .returned (.slice a U.length c) ∧ U.length ≤ c ∧ c ≤ 9223372036854775807 ∧ OwnL w' (wb.heap.size + 1) 36 2 adC (.slice a U.length c) U ∧ Xt wb w' := by
  have hp : (E.map (·.1)).Perm U := by
    refine (List.perm_ext_iff_of_nodup hm.nodup (hU.imp fun {a b} hlt e => by rw [e, adLt_irrefl] at hlt; cases hlt)).2 fun a => ?_
    rw [hmem a, lk_mem_iff]
  have hlen : E.length = U.length := by have := hp.length_eq; simpa using this
  have hx : Xt wb (wb.alloc (.cells #[.map (some b)] 66)) := (Xt.refl wb).alloc _
  have hmb : MapIs (wb.alloc (.cells #[.map (some b)] 66)) b E := hm.of_heap (hx.block b hm.lt)
  refine ((callsIn_wide (n := 30)).1 (sortedFunc_in 80 #[.pointer (some ⟨wb.heap.size, 0, none⟩)] (enters_of Tryz.func80 (by kernel_rfl) rfl) _ _ E.length (by omega) (fun ks hk => by have := hk.length_eq; simp at this; omega) 30 (by omega) _ (keys_stops Fence.wide (30 - 1 - 1 - 1) trivial rfl (by omega) wb.heap.size b E _ (by simp) (by simp) hmb))).mono ?_
  rintro e w' ⟨v, ks, rfl, hS, ho, hbc⟩
  rw [sortL_of hU (hS.trans hp)] at ho
  obtain ⟨a, c, rfl, h1, h2⟩ := OwnL.slice ho (n := U.length) rfl
  exact ⟨a, c, rfl, h1, h2, by simpa using ho, hx.trans hbc⟩
theorem gcopy_in {w : World} {y : CE} (h : ceIn w y) : Calls Tryz.prog 38 #[ceV y] w fun e w' => ∃ z : CE, z.1 = copyC y.1 ∧ e = .returned (ceV z) ∧ (smallT z.1.t ∧ ∃ n, OwnIn (fun b => w.heap.size ≤ b) w' n (.slice z.2 z.1.t.args.length z.1.t.args.length) z.1.t.args) ∧ Xt w w' := by
  obtain ⟨hs, n, hn⟩ := h
  refine (gcopyO_any n y.1 y.2 _ w hs hn).mono ?_
  rintro e w' ⟨a', rfl, hA, hx⟩
  refine ⟨(copyC y.1, a'), rfl, by rw [ceV_copy], ⟨smallT_copy _ hs, n, ?_⟩, hx⟩
  show OwnIn _ _ _ (.slice a' (copyT y.1.t).args.length (copyT y.1.t).args.length) (copyT y.1.t).args
  rw [copyT_len, copyT_args]
  exact hA
set_option maxRecDepth 100000 in
set_option maxHeartbeats 8000000 in
theorem gputs_any (g1 g2 b1 b2 : Nat) (M1 M2 : GM) (w : World) (h1 : GridIs w g1 b1 M1) (h2 : GridIs w g2 b2 M2) :
    Calls Tryz.prog 31 #[.pointer (some ⟨g1, 0, none⟩), .pointer (some ⟨g2, 0, none⟩)] w fun e w' => ∃ a c l, e = .returned (.slice a l.length l.length) ∧ PutsOwn w' w.heap.size (.slice a l.length c) l ∧ l.map (fun x => (x.1, x.2.1)) = putsK M1 M2 (unionK M1 M2) ∧ Xt w w' := by
  have H1 := Lib.hid h1
  have H2 := Lib.hid h2
  have c1 := h1.cell
  have c2 := h2.cell
  obtain ⟨E1, hm1, he1⟩ := h1.map
  have hl1 := h1.len hm1 he1
  have hp1 := h1.keys hm1 he1
  have hE1 := hm1
  obtain ⟨es, clock, hes, hst, hkv⟩ := hm1
  obtain ⟨wa, hwa⟩ : ∃ wa, w.alloc (.map es clock) = wa := ⟨_, rfl⟩
  have hma : MapIs wa w.heap.size E1 := by rw [← hwa]; exact ⟨es, clock, (MapKept.heap_alloc w _).1, hst, hkv⟩
  have hxa : Xt w wa := by rw [← hwa]; exact (Xt.refl w).alloc _
  have hsa : wa.heap.size = w.heap.size + 1 := by rw [← hwa]; simp
  have ca2 : wa.cell? ⟨g2, 0, none⟩ = some (.map (some b2)) := ((hxa.cells).1 _ 0 h2.lt.1).trans c2
  have HC := Lib.hid (mclone_any b1 es clock w hes)
  have HCP := Lib.hid (mcopy_any w.heap.size b2 E1 M2 wa (by have := h2.lt.2; omega) hma (h2.xt hxa).mapG)
  have HKY := Lib.hid (fun W => (callsIn_wide (n := 30)).1 (keys_in Fence.wide 30 trivial rfl (some w.heap.size) W))
  have HUS := Lib.hid (unionK_sorted h1.sorted M2)
  have HUM := Lib.hid (unionK_mem h1.sorted M2)
  have HUL := Lib.hid (show (unionK M1 M2).length ≤ 8192 by have := unionK_len h1.sorted M2; have := h1.many; have := h2.many; omega)
  have HISO : Hid (∀ a, (lk a E1).isSome = (lkM a M1).isSome) := fun a => by rw [he1 a]; simp
  clear he1 hl1 hp1 hE1 hes hst hkv h1 h2
  have HX0 := Lib.hid hxa
  have HSZ := Lib.hid hsa
  have HMA := Lib.hid hma.lt
  generalize hU : unionK M1 M2 = U at HUS HUM HUL
  have HU := Lib.hid hU
  have HSF : Hid (∀ wb E', MapIs wb w.heap.size E' → (∀ a, (lk a E').isSome = ((lk a E1).isSome || (lkM a M2).isSome)) → Calls Tryz.prog 53 #[.func (.func 80) #[] #[.pointer (some ⟨wb.heap.size, 0, none⟩)], .func (.func 55) #[] #[]] (wb.alloc (.cells #[.map (some w.heap.size)] 66)) fun e w' => ∃ a c, e = .returned (.slice a U.length c) ∧ U.length ≤ c ∧ c ≤ 9223372036854775807 ∧ OwnL w' (wb.heap.size + 1) 36 2 adC (.slice a U.length c) U ∧ Xt wb w') :=
    fun wb E' hm hs => sortedKeys_any wb w.heap.size E' U hm HUS.out (fun a => by rw [HUM.out a, hs a, HISO.out a, Bool.or_eq_true, lkM_mem_iff, lkM_mem_iff]) HUL.out
  clear hU hxa hsa hma
  go_enter Tryz.func31, Tryz.ntmps31
  go_wp2_with (first
    | (go_at_call 49; refine (HC.out).mono ?_; rintro e w' ⟨rfl, rfl⟩; rw [hwa])
    | (go_at_call 52; refine (HCP.out).mono ?_; rintro e wb ⟨⟨v0, rfl⟩, ⟨E', hME, hSO⟩, hgb⟩; have HME := Lib.hid hME; have HSO := Lib.hid hSO; have HGB := Lib.hid hgb; clear hME hSO hgb)
    | (go_at_call 54; refine (HKY.out _).mono ?_; rintro e w' ⟨rfl, rfl⟩)
    | (go_at_call 53; refine (HSF.out _ _ HME.out HSO.out).mono ?_; rintro e wc ⟨ka, kc, rfl, hkc, hkc2, hko, hxc⟩; have HKO := Lib.hid hko; have HXC := Lib.hid hxc; clear hko hxc))
  have HXW : Hid (Xt w wc) := (HX0.out.grownB HGB.out (fun m hm => by cases hm; exact Nat.le_refl _)).trans HXC.out
  have HKB := Lib.hid (show wb.heap.size ≤ wc.heap.size from HXC.out.size)
  obtain ⟨E2, hE2, HLK2⟩ := H2.out.lookAt
  obtain ⟨E1', hE1', HLK1⟩ := H1.out.lookAt
  have HLK2 := Lib.hid (fun W (hx : Xt w W) => HLK2 W (hE2.of_heap (hx.block b2 hE2.lt)))
  have HLK1 := Lib.hid (fun W (hx : Xt w W) => HLK1 W (hE1'.of_heap (hx.block b1 hE1'.lt)))
  have HG1 := Lib.hid (fun W (hx : Xt w W) => ((hx.cells).1 g1 0 H1.out.lt.1).trans H1.out.cell)
  have HG2 := Lib.hid (fun W (hx : Xt w W) => ((hx.cells).1 g2 0 H2.out.lt.1).trans H2.out.cell)
  have HCI1 := Lib.hid (fun W (hx : Xt w W) a => (H1.out.lookIn a).kept hx.cellsIn)
  have HCI2 := Lib.hid (fun W (hx : Xt w W) a => (H2.out.lookIn a).kept hx.cellsIn)
  clear hE2 hE1' c1 c2 ca2 hwa HC HCP HKY HSF HME HSO HGB HISO HX0 HSZ HMA
  go_loopw [6, 31] (fun s6 s31 wr => ∃ (i : Nat) (l : List PutE), i ≤ U.length ∧ s31 = .int .i64 i ∧ Hid (PutsOwn wr wc.heap.size s6 l) ∧ Hid (l.map (fun x => (x.1, x.2.1)) = putsK M1 M2 (U.take i)) ∧ Hid (Xt wc wr)) (fun _ s31 _ => U.length - (intOf s31).toNat)
  case atStart => exact ⟨0, [], Nat.zero_le _, rfl, PutsOwn.nil _ _, by unfold Hid; rfl, Xt.refl _⟩
  case round =>
    obtain ⟨i, l, hi, rfl, HO, HPL, HX⟩ := hrel
    by_cases hlt : i < U.length
    · obtain ⟨x0, hx0⟩ : ∃ x0, U[i]? = some x0 := ⟨U[i], by simp [hlt]⟩
      obtain ⟨c, d⟩ := x0
      have hki : (i : Int) < (U.length : Int) := by omega
      obtain ⟨kb, koff, rfl, k0, k1⟩ := keys_at (HKO.out.xt HX.out) hx0
      have HXI := Lib.hid hx0
      obtain ⟨wq, hwq, hbq, hsq, q0, q1⟩ := box1 wr c d 36
      have hxq : Xt wr wq.drew := Xt.drew hbq
      have hxwq : Xt w wq.drew := HXW.out.trans (HX.out.trans hxq)
      have HCY := Lib.hid (fun W (hx : Xt w W) => HCI2.out W hx (c, d))
      have HCX := Lib.hid (fun W (hx : Xt w W) => HCI1.out W hx (c, d))
      have HLY := Lib.hid (fun W (hx : Xt w W) => HLK2.out W hx (c, d))
      have HLX := Lib.hid (fun W (hx : Xt w W) => HLK1.out W hx (c, d))
      have HNO := Lib.hid (putsK_no (M1 := M1) (M2 := M2) hx0)
      have HYE := Lib.hid (putsK_yes (M1 := M1) (M2 := M2) hx0)
      change Hid (∀ W, Xt w W → ceIn W (getM M2 (c, d))) at HCY
      change Hid (∀ W, Xt w W → ceIn W (getM M1 (c, d))) at HCX
      generalize getM M2 (c, d) = y at HCY HLY HNO HYE
      generalize getM M1 (c, d) = x at HCX HLX HNO HYE
      clear hx0 hbq
      go_wp2_with fail
      -- region 9
      refine wp_region_held_drew (S := fun W => W.cell? ⟨wr.heap.size, 0, none⟩ = some (.int .i64 c) ∧ W.cell? ⟨wr.heap.size, 1, none⟩ = some (.int .i64 d) ∧ W.cell? ⟨g2, 0, none⟩ = some (.map (some b2)) ∧ (Instr.lookup 66 (.map (some b2)) (.agg #[.int .i64 c, .int .i64 d]) false).run Tryz.prog W = .ok (ceV y) W) (by kernel_rfl) ⟨q0, q1, HG2.out _ hxwq, HLY.out _ hxwq⟩ (fun hHeld => ?_)
      refine wpAnyH_take (i := 0) (oi := _) (v := ?_) rfl (by kernel_rfl) (by kernel_rfl) (by kernel_rfl) (fun _ _ _ h => h) (Or.inl ⟨by rfl, ?_⟩) (by assumption) ?_
      rotate_left
      · intro w hSw; (try dsimp only at hSw); obtain ⟨k0, k1, kg, kl⟩ := hSw; go_simp; first | done | with_reducible rfl
      try simp only [Act.put, List.getElem_toArray, List.getElem_cons_zero, List.setIfInBounds_toArray, List.set_cons_zero, List.set_cons_succ]
      refine wpAnyH_take (i := 1) (oi := _) (v := ?_) rfl (by kernel_rfl) (by kernel_rfl) (by kernel_rfl) (fun _ _ _ h => h) (Or.inl ⟨by rfl, ?_⟩) (by assumption) ?_
      rotate_left
      · intro w hSw; (try dsimp only at hSw); obtain ⟨k0, k1, kg, kl⟩ := hSw; go_simp; first | done | with_reducible rfl
      try simp only [Act.put, List.getElem_toArray, List.getElem_cons_zero, List.getElem_cons_succ, List.setIfInBounds_toArray, List.set_cons_zero, List.set_cons_succ]
      refine wpAnyH_take (i := 2) (oi := _) (v := ?_) rfl (by kernel_rfl) (by kernel_rfl) (by kernel_rfl) (fun _ _ _ h => h) (Or.inl ⟨by rfl, ?_⟩) (by assumption) ?_
      rotate_left
      · intro w hSw; (try dsimp only at hSw); obtain ⟨k0, k1, kg, kl⟩ := hSw; go_simp; first | done | with_reducible rfl
      try simp only [Act.put, List.getElem_toArray, List.getElem_cons_zero, List.getElem_cons_succ, List.setIfInBounds_toArray, List.set_cons_zero, List.set_cons_succ]
      refine wpAnyH_take (i := 3) (oi := _) (v := ?_) rfl (by kernel_rfl) (by kernel_rfl) (by kernel_rfl) (fun _ _ _ h => h) (Or.inl ⟨by rfl, ?_⟩) (by assumption) ?_
      rotate_left
      · intro w hSw; (try dsimp only at hSw); obtain ⟨k0, k1, kg, kl⟩ := hSw; go_simp; first | done | with_reducible rfl
      try simp only [Act.put, List.getElem_toArray, List.getElem_cons_zero, List.getElem_cons_succ, List.setIfInBounds_toArray, List.set_cons_zero, List.set_cons_succ]
      refine wpAnyH_take (i := 4) (oi := _) (v := ?_) rfl (by kernel_rfl) (by kernel_rfl) (by kernel_rfl) (fun _ _ _ h => h) (Or.inl ⟨by rfl, ?_⟩) (by assumption) ?_
      rotate_left
      · intro w hSw; (try dsimp only at hSw); obtain ⟨k0, k1, kg, kl⟩ := hSw; go_simp; first | done | with_reducible rfl
      try simp only [Act.put, List.getElem_toArray, List.getElem_cons_zero, List.getElem_cons_succ, List.setIfInBounds_toArray, List.set_cons_zero, List.set_cons_succ]
      refine wpAnyH_take (i := 5) (oi := _) (v := ?_) rfl (by kernel_rfl) (by kernel_rfl) (by kernel_rfl) (fun _ _ _ h => h) (Or.inl ⟨by rfl, ?_⟩) (by assumption) ?_
      rotate_left
      · intro w hSw; (try dsimp only at hSw); obtain ⟨k0, k1, kg, kl⟩ := hSw; go_simp; first | done | with_reducible rfl
      try simp only [Act.put, List.getElem_toArray, List.getElem_cons_zero, List.getElem_cons_succ, List.setIfInBounds_toArray, List.set_cons_zero, List.set_cons_succ]
      obtain ⟨wZ, wR, hwZ, hwR, hrZ, hrR, hxR, hsR, hxZ, hsZ⟩ := boxR wq.drew y
      have hsd : wq.drew.heap.size = wr.heap.size + 1 := hsq
      rw [hsd] at hwR hrZ hrR
      have hwZs : wr.heap.size < wq.drew.heap.size := by omega
      have hSZ : wZ.cell? ⟨wr.heap.size, 0, none⟩ = some (.int .i64 c) ∧ wZ.cell? ⟨wr.heap.size, 1, none⟩ = some (.int .i64 d) ∧ wZ.cell? ⟨g2, 0, none⟩ = some (.map (some b2)) ∧ (Instr.lookup 66 (.map (some b2)) (.agg #[.int .i64 c, .int .i64 d]) false).run Tryz.prog wZ = .ok (ceV y) wZ := ⟨((hxZ.cells).1 _ 0 hwZs).trans q0, ((hxZ.cells).1 _ 1 hwZs).trans q1, HG2.out _ (hxwq.trans hxZ), HLY.out _ (hxwq.trans hxZ)⟩
      have hSR : wR.cell? ⟨wr.heap.size, 0, none⟩ = some (.int .i64 c) ∧ wR.cell? ⟨wr.heap.size, 1, none⟩ = some (.int .i64 d) ∧ wR.cell? ⟨g2, 0, none⟩ = some (.map (some b2)) ∧ (Instr.lookup 66 (.map (some b2)) (.agg #[.int .i64 c, .int .i64 d]) false).run Tryz.prog wR = .ok (ceV y) wR := ⟨((hxR.cells).1 _ 0 hwZs).trans q0, ((hxR.cells).1 _ 1 hwZs).trans q1, HG2.out _ (hxwq.trans hxR), HLY.out _ (hxwq.trans hxR)⟩
      have HSZ := Lib.hid hSZ
      have HSR := Lib.hid hSR
      clear hSZ
      refine wpAnyH_ready (rs := [6]) (by kernel_rfl) (by simp) ?_
      refine AllReadyH.cons (o := _) rfl (fun K hK => ?_) AllReadyH.nil
      go_simp
      refine hK.out _ _ HSZ.out (fun hHeld2 => ?_)
      clear hK K
      try simp only [Act.put, List.getElem_toArray, List.getElem_cons_zero, List.getElem_cons_succ, List.setIfInBounds_toArray, List.set_cons_zero, List.set_cons_succ]
      refine wpAnyH_ready (rs := [7]) (by kernel_rfl) (by simp) ?_
      refine AllReadyH.cons (o := _) rfl (fun K hK => ?_) AllReadyH.nil
      rw [if_pos (by rfl)]
      refine wp_store_row (P := Tryz.prog) 46 _ _ rfl (wr.heap.size + 1) #[.int .i64 y.1.kind, .int .i64 y.1.v.kind, .float .f64 y.1.v.x, .string y.1.v.s, .bool y.1.v.b, .int .i64 y.1.v.f, .int .i64 y.1.t.kind, .int .i64 y.1.t.op, .float .f64 y.1.t.x, .string y.1.t.s, .bool y.1.t.b, .int .i64 y.1.t.f, .int .i64 y.1.t.ref.a.1, .int .i64 y.1.t.ref.a.2, .bool y.1.t.ref.cf, .bool y.1.t.ref.rf, .int .i64 y.1.t.to.a.1, .int .i64 y.1.t.to.a.2, .bool y.1.t.to.cf, .bool y.1.t.to.rf, .slice y.2 y.1.t.args.length y.1.t.args.length] rfl rfl 46 _ hrZ (by kernel_rfl) rfl (by simp [Value.oneCell']) ?_
      rw [hwR]
      refine hK.out _ _ HSR.out (fun hHeld3 => ?_)
      clear hK K
      refine wpAnyH_done (by kernel_rfl) ?_ _
      have hxwR : Xt w wR.drew := (hxwq.trans hxR).drew
      have r0 : wR.drew.cell? ⟨wr.heap.size, 0, none⟩ = some (.int .i64 c) := hSR.1
      have r1 : wR.drew.cell? ⟨wr.heap.size, 1, none⟩ = some (.int .i64 d) := hSR.2.1
      have rr : wR.drew.heap[wr.heap.size + 1]? = some (.cells (ceC y).toArray 46 (0, 0)) := hrR
      have HSM := Lib.hid (gsame_in (HCX.out _ hxwR) (HCY.out _ hxwR))
      have HXR := Lib.hid (Xt.trans hxq hxR)
      clear hwZ hwR hrZ hrR hxZ hsZ HSZ HSR hSR hwq q0 q1 k0 k1
      go_wp2_with fail
      -- region 10
      refine wp_region_held_drew (S := fun W => W.cell? ⟨wr.heap.size, 0, none⟩ = some (.int .i64 c) ∧ W.cell? ⟨wr.heap.size, 1, none⟩ = some (.int .i64 d) ∧ W.cell? ⟨g1, 0, none⟩ = some (.map (some b1)) ∧ (Instr.lookup 66 (.map (some b1)) (.agg #[.int .i64 c, .int .i64 d]) false).run Tryz.prog W = .ok (ceV x) W ∧ W.heap[wr.heap.size + 1]? = some (.cells (ceC y).toArray 46 (0, 0))) (by kernel_rfl) ⟨r0, r1, HG1.out _ hxwR, HLX.out _ hxwR, rr⟩ (fun hHeld => ?_)
      refine wpAnyH_take (i := 0) (oi := _) (v := ?_) rfl (by kernel_rfl) (by kernel_rfl) (by kernel_rfl) (fun _ _ _ h => h) (Or.inl ⟨by rfl, ?_⟩) (by assumption) ?_
      rotate_left
      · intro w hSw; (try dsimp only at hSw); obtain ⟨k0, k1, kg, kl, kr⟩ := hSw; clear kr; go_simp; first | done | with_reducible rfl
      try simp only [Act.put, List.getElem_toArray, List.getElem_cons_zero, List.setIfInBounds_toArray]
      refine wpAnyH_take (i := 1) (oi := _) (v := ?_) rfl (by kernel_rfl) (by kernel_rfl) (by kernel_rfl) (fun _ _ _ h => h) (Or.inl ⟨by rfl, ?_⟩) (by assumption) ?_
      rotate_left
      · intro w hSw; (try dsimp only at hSw); obtain ⟨k0, k1, kg, kl, kr⟩ := hSw; clear kr; go_simp; first | done | with_reducible rfl
      try simp only [Act.put, List.getElem_toArray, List.getElem_cons_zero, List.getElem_cons_succ, List.setIfInBounds_toArray, List.set_cons_zero, List.set_cons_succ]
      refine wpAnyH_take (i := 2) (oi := _) (v := ?_) rfl (by kernel_rfl) (by kernel_rfl) (by kernel_rfl) (fun _ _ _ h => h) (Or.inl ⟨by rfl, ?_⟩) (by assumption) ?_
      rotate_left
      · intro w hSw; (try dsimp only at hSw); obtain ⟨k0, k1, kg, kl, kr⟩ := hSw; clear kr; go_simp; first | done | with_reducible rfl
      try simp only [Act.put, List.getElem_toArray, List.getElem_cons_zero, List.getElem_cons_succ, List.setIfInBounds_toArray, List.set_cons_zero, List.set_cons_succ]
      refine wpAnyH_take (i := 3) (oi := _) (v := ?_) rfl (by kernel_rfl) (by kernel_rfl) (by kernel_rfl) (fun _ _ _ h => h) (Or.inl ⟨by rfl, ?_⟩) (by assumption) ?_
      rotate_left
      · intro w hSw; (try dsimp only at hSw); obtain ⟨k0, k1, kg, kl, kr⟩ := hSw; clear kr; go_simp; first | done | with_reducible rfl
      try simp only [Act.put, List.getElem_toArray, List.getElem_cons_zero, List.getElem_cons_succ, List.setIfInBounds_toArray, List.set_cons_zero, List.set_cons_succ]
      refine wpAnyH_take (i := 4) (oi := _) (v := ?_) rfl (by kernel_rfl) (by kernel_rfl) (by kernel_rfl) (fun _ _ _ h => h) (Or.inl ⟨by rfl, ?_⟩) (by assumption) ?_
      rotate_left
      · intro w hSw; (try dsimp only at hSw); obtain ⟨k0, k1, kg, kl, kr⟩ := hSw; clear kr; go_simp; first | done | with_reducible rfl
      try simp only [Act.put, List.getElem_toArray, List.getElem_cons_zero, List.getElem_cons_succ, List.setIfInBounds_toArray, List.set_cons_zero, List.set_cons_succ]
      refine wpAnyH_take (i := 5) (oi := _) (v := ?_) rfl (by kernel_rfl) (by kernel_rfl) (by kernel_rfl) (fun _ _ _ h => h) (Or.inl ⟨by rfl, ?_⟩) (by assumption) ?_
      rotate_left
      · intro w hSw; (try dsimp only at hSw); obtain ⟨k0, k1, kg, kl, kr⟩ := hSw; clear kr; go_simp; first | done | with_reducible rfl
      try simp only [Act.put, List.getElem_toArray, List.getElem_cons_zero, List.getElem_cons_succ, List.setIfInBounds_toArray, List.set_cons_zero, List.set_cons_succ]
      refine wpAnyH_take (i := 6) (oi := _) (v := .agg (ceC y).toArray) rfl (by kernel_rfl) (by kernel_rfl) (by kernel_rfl) (fun _ _ _ h => h) (Or.inl ⟨by rfl, ?_⟩) (by assumption) ?_
      · intro w hSw; exact exec_load_row 46 _ (by rfl) (wr.heap.size + 1) (by rfl) 46 (ceC y).toArray (0, 0) _ hSw.2.2.2.2 Tryz.underlying46 rfl (by kernel_rfl)
      try simp only [Act.put, List.getElem_toArray, List.getElem_cons_zero, List.getElem_cons_succ, List.setIfInBounds_toArray, List.set_cons_zero, List.set_cons_succ]
      refine wpAnyH_ready (rs := [7]) (by kernel_rfl) (by simp) ?_
      refine AllReadyH.cons (o := _) rfl (fun K hK => ?_) AllReadyH.nil
      go_simp
      refine (HSM.out).mono ?_
      rintro e w6 ⟨rfl, hg6⟩
      have h6 : Xt wR.drew w6 := hg6.xt
      have hwRs : wr.heap.size + 1 < wR.drew.heap.size := (Array.getElem?_eq_some_iff.1 rr).1
      have hxw6 := hxwR.trans h6
      have HX6 := Lib.hid (Xt.trans (Xt.drew HXR.out) h6)
      have t0 := ((h6.cells).1 _ 0 (by omega)).trans r0
      have t1 := ((h6.cells).1 _ 1 (by omega)).trans r1
      have tr := (h6.block _ hwRs).trans rr
      refine hK.out _ _ ⟨t0, t1, HG1.out _ hxw6, HLX.out _ hxw6, tr⟩ (fun hHeld2 => ?_)
      clear hK K
      try simp only [Act.put, List.getElem_toArray, List.getElem_cons_zero, List.getElem_cons_succ, List.setIfInBounds_toArray, List.set_cons_zero, List.set_cons_succ]
      clear r0 r1 rr hg6 hxwR HSM
      cases hsm : sameCB x.1 y.1
      · rw [hsm] at HYE
        have HYE2 := Lib.hid (HYE.out rfl)
        refine wpAnyH_take (i := 8) (oi := _) (v := ?_) rfl (by kernel_rfl) (by kernel_rfl) (by kernel_rfl) (fun _ _ _ h => h) (Or.inl ⟨by rfl, ?_⟩) (by assumption) ?_
        rotate_left
        · intro w hSw; (try dsimp only at hSw); skip; go_simp; first | done | with_reducible rfl
        try simp only [Act.put, List.getElem_toArray, List.getElem_cons_zero, List.getElem_cons_succ, List.setIfInBounds_toArray, List.set_cons_zero, List.set_cons_succ]
        refine wpAnyH_done (by kernel_rfl) ?_ _
        go_wp2_with fail
        -- region 11
        have hx6d : Xt w w6.drew := hxw6.drew
        have HCP2 := Lib.hid (gcopy_in (HCY.out _ hx6d))
        have HX6d : Hid (Xt wr w6.drew) := HX6.out.drew
        have hs6 : wr.heap.size + 1 < w6.drew.heap.size := (Array.getElem?_eq_some_iff.1 tr).1
        refine wp_region_held_drew (S := fun W => W.cell? ⟨wr.heap.size, 0, none⟩ = some (.int .i64 c) ∧ W.cell? ⟨wr.heap.size, 1, none⟩ = some (.int .i64 d) ∧ W.heap[wr.heap.size + 1]? = some (.cells (ceC y).toArray 46 (0, 0))) (by kernel_rfl) ⟨t0, t1, tr⟩ (fun hHeld => ?_)
        refine wpAnyH_take (i := 0) (oi := _) (v := ?_) rfl (by kernel_rfl) (by kernel_rfl) (by kernel_rfl) (fun _ _ _ h => h) (Or.inl ⟨by rfl, ?_⟩) (by assumption) ?_
        rotate_left
        · intro w hSw; (try dsimp only at hSw); obtain ⟨k0, k1, kr⟩ := hSw; clear kr; go_simp; first | done | with_reducible rfl
        try simp only [Act.put, List.getElem_toArray, List.getElem_cons_zero, List.setIfInBounds_toArray, List.set_cons_zero, List.set_cons_succ]
        refine wpAnyH_take (i := 1) (oi := _) (v := ?_) rfl (by kernel_rfl) (by kernel_rfl) (by kernel_rfl) (fun _ _ _ h => h) (Or.inl ⟨by rfl, ?_⟩) (by assumption) ?_
        rotate_left
        · intro w hSw; (try dsimp only at hSw); obtain ⟨k0, k1, kr⟩ := hSw; clear kr; go_simp; first | done | with_reducible rfl
        try simp only [Act.put, List.getElem_toArray, List.getElem_cons_zero, List.getElem_cons_succ, List.setIfInBounds_toArray, List.set_cons_zero, List.set_cons_succ]
        refine wpAnyH_take (i := 2) (oi := _) (v := .agg (ceC y).toArray) rfl (by kernel_rfl) (by kernel_rfl) (by kernel_rfl) (fun _ _ _ h => h) (Or.inl ⟨by rfl, ?_⟩) (by assumption) ?_
        · intro w hSw; exact exec_load_row 46 _ (by rfl) (wr.heap.size + 1) (by rfl) 46 (ceC y).toArray (0, 0) _ hSw.2.2 Tryz.underlying46 rfl (by kernel_rfl)
        try simp only [Act.put, List.getElem_toArray, List.getElem_cons_zero, List.getElem_cons_succ, List.setIfInBounds_toArray, List.set_cons_zero, List.set_cons_succ]
        refine wpAnyH_ready (rs := [3]) (by kernel_rfl) (by simp) ?_
        refine AllReadyH.cons (o := _) rfl (fun K hK => ?_) AllReadyH.nil
        go_simp
        refine (HCP2.out).mono ?_
        rintro e w7 ⟨z, hz, rfl, ⟨hzs, n7, hA⟩, h7⟩
        have HZ := Lib.hid hz
        clear hz
        have z0 := ((h7.cells).1 _ 0 (by omega)).trans t0
        have z1 := ((h7.cells).1 _ 1 (by omega)).trans t1
        have zr := (h7.block _ hs6).trans tr
        refine hK.out _ _ ⟨z0, z1, zr⟩ (fun hHeld2 => ?_)
        clear hK K
        try simp only [Act.put, List.getElem_toArray, List.getElem_cons_zero, List.getElem_cons_succ, List.setIfInBounds_toArray, List.set_cons_zero, List.set_cons_succ]
        clear t0 t1 tr
        refine wpAnyH_take (i := 4) (oi := _) (v := ?_) rfl (by kernel_rfl) (by kernel_rfl) (by kernel_rfl) (fun _ _ _ h => h) (Or.inl ⟨by rfl, ?_⟩) (by assumption) ?_
        rotate_left
        · intro w hSw; (try dsimp only at hSw); skip; go_simp; first | done | with_reducible rfl
        try simp only [Act.put, List.getElem_toArray, List.getElem_cons_zero, List.getElem_cons_succ, List.setIfInBounds_toArray, List.set_cons_zero, List.set_cons_succ]
        obtain ⟨wD, hwD⟩ : ∃ wD, w7.alloc (.cells #[.int .i64 c, .int .i64 d, .int .i64 z.1.kind, .int .i64 z.1.v.kind, .float .f64 z.1.v.x, .string z.1.v.s, .bool z.1.v.b, .int .i64 z.1.v.f, .int .i64 z.1.t.kind, .int .i64 z.1.t.op, .float .f64 z.1.t.x, .string z.1.t.s, .bool z.1.t.b, .int .i64 z.1.t.f, .int .i64 z.1.t.ref.a.1, .int .i64 z.1.t.ref.a.2, .bool z.1.t.ref.cf, .bool z.1.t.ref.rf, .int .i64 z.1.t.to.a.1, .int .i64 z.1.t.to.a.2, .bool z.1.t.to.cf, .bool z.1.t.to.rf, .slice z.2 z.1.t.args.length z.1.t.args.length] 84) = wD := ⟨_, rfl⟩
        have hnews : ∀ (j : Nat) (u : Value), (putC ((c, d), z))[j]? = some u → wD.cell? ((⟨w7.heap.size, 0, none⟩ : Addr).add j) = some u := by
          rw [← hwD]; exact news_at w7 (putC ((c, d), z)) 84 rfl
        have hx7D : Xt w7 wD := by rw [← hwD]; exact (Xt.refl w7).alloc _
        have hxrD : Xt wr wD := HX6d.out.trans (h7.trans hx7D)
        have hOD := HO.out.xt hxrD
        have hle1 := HX.out.size
        have hle2 := hxrD.size
        have hle3 := HX6d.out.size
        have hok : okPut (fun b => wr.heap.size ≤ b ∧ wc.heap.size ≤ b ∧ u6.ownBlock ≠ some b) wD ((c, d), z) := by
          refine ⟨hzs, n7, hA.keep (fun b hb _ => ⟨by omega, by omega, fun e => ?_⟩) (fun b _ hlt => hx7D.block b hlt)⟩
          have := (World.ownsRow.lt HO.out.own b e).2
          omega
        have hll : l.length ≤ 1048576 := by
          have e1 := congrArg List.length HPL.out
          rw [List.length_map] at e1
          have e2 := putsK_len M1 M2 (U.take i)
          have e3 : (U.take i).length ≤ U.length := by rw [List.length_take]; omega
          have := HUL.out
          omega
        obtain ⟨v8, w8, hpush, HO8, hg8⟩ := putsOwn_push HO.out hxrD (by omega) ((c, d), z) ⟨w7.heap.size, 0, none⟩ hnews hok hll 29
        have HO8 := Lib.hid HO8
        have hx8 : Xt wc w8 := (HX.out.trans hxrD).grownB hg8 (fun m hm => (World.ownsRow.lt HO.out.own m (by first | exact hm | exact hm.symm)).1)
        have HX8 := Lib.hid hx8
        have hs7 := h7.size
        have hs8 := hx7D.size
        have hsD : wD.cell? ⟨wr.heap.size, 0, none⟩ = some (.int .i64 c) ∧ wD.cell? ⟨wr.heap.size, 1, none⟩ = some (.int .i64 d) ∧ wD.heap[wr.heap.size + 1]? = some (.cells (ceC y).toArray 46 (0, 0)) := ⟨((hx7D.cells).1 _ 0 (by omega)).trans z0, ((hx7D.cells).1 _ 1 (by omega)).trans z1, (hx7D.block _ (by omega)).trans zr⟩
        have hne0 : u6.ownBlock ≠ some wr.heap.size := fun e => by have := (World.ownsRow.lt HO.out.own _ e).2; omega
        have hne1 : u6.ownBlock ≠ some (wr.heap.size + 1) := fun e => by have := (World.ownsRow.lt HO.out.own _ e).2; omega
        have hsE : w8.cell? ⟨wr.heap.size, 0, none⟩ = some (.int .i64 c) ∧ w8.cell? ⟨wr.heap.size, 1, none⟩ = some (.int .i64 d) ∧ w8.heap[wr.heap.size + 1]? = some (.cells (ceC y).toArray 46 (0, 0)) := ⟨(World.cell?_of_block (w := wD) (a := ⟨wr.heap.size, 0, none⟩) (hg8.block wr.heap.size (by omega) (fun e => hne0 e.symm))).trans hsD.1, (World.cell?_of_block (w := wD) (a := ⟨wr.heap.size, 1, none⟩) (hg8.block wr.heap.size (by omega) (fun e => hne0 e.symm))).trans hsD.2.1, (hg8.block _ (by omega) (fun e => hne1 e.symm)).trans hsD.2.2⟩
        have HSD := Lib.hid hsD
        have HSE := Lib.hid hsE
        clear hnews hx7D hxrD hOD hok hll hg8 hx8 hsD hsE hA h7 z0 z1 zr HX6d hx6d HCP2
        refine wpAnyH_ready (rs := [5]) (by kernel_rfl) (by simp) ?_
        refine AllReadyH.cons (o := _) rfl (fun K hK => ?_) AllReadyH.nil
        go_simp
        refine hK.out _ _ HSD.out (fun hHeld3 => ?_)
        clear hK K
        try simp only [Act.put, List.getElem_toArray, List.getElem_cons_zero, List.getElem_cons_succ, List.setIfInBounds_toArray, List.set_cons_zero, List.set_cons_succ]
        refine wpAnyH_ready (rs := [6]) (by kernel_rfl) (by simp) ?_
        refine AllReadyH.cons (o := _) rfl (fun K hK => ?_) AllReadyH.nil
        rw [if_pos (by rfl)]
        refine oper_append_eq _ _ 29 rfl _ _ rfl rfl hpush ?_
        refine hK.out _ _ HSE.out (fun hHeld4 => ?_)
        clear hK K
        try simp only [Act.put, List.getElem_toArray, List.getElem_cons_zero, List.getElem_cons_succ, List.setIfInBounds_toArray, List.set_cons_zero, List.set_cons_succ]
        refine wpAnyH_take (i := 7) (oi := _) (v := ?_) rfl (by kernel_rfl) (by kernel_rfl) (by kernel_rfl) (fun _ _ _ h => h) (Or.inl ⟨by rfl, ?_⟩) (by assumption) ?_
        rotate_left
        · intro w hSw; (try dsimp only at hSw); skip; go_simp; first | done | with_reducible rfl
        try simp only [Act.put, List.getElem_toArray, List.getElem_cons_zero, List.getElem_cons_succ, List.setIfInBounds_toArray, List.set_cons_zero, List.set_cons_succ]
        refine wpAnyH_done (by kernel_rfl) ?_ _
        go_wp2_with fail
        go_roundw
        case rel => exact ⟨i + 1, l ++ [((c, d), z)], by omega, by go_num, HO8.out, by unfold Hid; rw [HYE2.out, List.map_append, HPL.out, ← HZ.out]; rfl, HX8.out⟩
        case measure => simp [intOf]; omega
      · rw [hsm] at HNO
        have HNO2 := Lib.hid (HNO.out rfl)
        refine wpAnyH_take (i := 8) (oi := _) (v := ?_) rfl (by kernel_rfl) (by kernel_rfl) (by kernel_rfl) (fun _ _ _ h => h) (Or.inl ⟨by rfl, ?_⟩) (by assumption) ?_
        rotate_left
        · intro w hSw; (try dsimp only at hSw); skip; go_simp; first | done | with_reducible rfl
        try simp only [Act.put, List.getElem_toArray, List.getElem_cons_zero, List.getElem_cons_succ, List.setIfInBounds_toArray, List.set_cons_zero, List.set_cons_succ]
        refine wpAnyH_done (by kernel_rfl) ?_ _
        go_wp2_with fail
        go_roundw
        case rel => exact ⟨i + 1, l, by omega, by go_num, HO.out.xt HX6.out, by unfold Hid; rw [HNO2.out]; exact HPL.out, HX.out.trans HX6.out⟩
        case measure => simp [intOf]; omega
    · have he : i = U.length := by omega
      subst he
      obtain ⟨va, vc, rfl, hvc, hvc2⟩ := ownsRow_base (HO.out.own.base (Nat.zero_le _))
      have HCL := Lib.hid (fun W => clipPut_any va l.length vc W hvc hvc2)
      go_wp2_with (refine (HCL.out _).mono ?_; rintro e w' ⟨rfl, rfl⟩)
      go_ret
      have hle := HXW.out.size
      refine ⟨va, vc, l, rfl, ⟨HO.out.own.base hle, let ⟨t, h1, h2⟩ := HO.out.apart; ⟨t, h1, fun i x hx => (h2 i x hx).keep (fun b hb _ => ⟨hb.1, by omega, hb.2.2⟩) (fun _ _ _ => rfl)⟩⟩, ?_, HXW.out.trans HX.out⟩
      rw [HPL.out, List.take_length]
end
section
open Go.RowKit Go.Sort Go.Maps Go.Shelf Go.MapKept
attribute [local go_sem] Oper.semAt_some

abbrev inAr (x : Ar) (a : Ad) : Bool := inB x.1.1 x.1.2 x.2.1 x.2.2 a.1 a.2
theorem PutsIn.row {w : World} {b off m cap i : Nat} {l : List PI} {x : PI} (h : PutsIn w (.slice (some ⟨b, off, none⟩) m cap) l) (hx : l[i]? = some x) : w.rangeAt b (off + i * 23) (inC1 x) := by
  obtain ⟨a', cap', e, h1, h2, h3⟩ := h.sl
  cases e
  obtain ⟨b2, off2, e, hc⟩ := h3 (fun e => by rw [e] at hx; simp at hx)
  cases e
  exact fun j u hu => hc i x hx j u hu
theorem pis_snoc (l : List PI) (x : PI) : pis (l ++ [x]) = pis l ++ [(x.a, x.c)] := by simp [pis]
/-- A list of puts is told, in a slice of its own. -/
def DListR (w : World) (o : PG) (S : PI → Prop) (e : Ending) (w' : World) : Prop := ∃ v l' b0, e = .returned v ∧ w.heap.size ≤ b0 ∧ PutsG w' b0 v l' ∧ pis l' = o ∧ (∀ x ∈ l', S x) ∧ Xt w w'
set_option maxRecDepth 100000 in
set_option maxHeartbeats 1000000 in
theorem din_any (z : Ar) (rb : Nat) (l : List PI) (w : World) (h : DG w rb l) :
    Calls Tryz.prog 24 #[.pointer (some ⟨rb, 0, none⟩), arV z] w (DListR w ((pis l).filter (fun y => inAr z y.1)) (fun x => x ∈ l)) := by
  obtain ⟨v, hc, hP⟩ := h.cell
  obtain ⟨la, lc, rfl, hlc, hlc2⟩ := hP.shape
  have hm := h.many
  obtain ⟨B, hB⟩ : ∃ B, w.heap.size = B := ⟨_, rfl⟩
  obtain ⟨w0, hw0⟩ : ∃ w0, w.alloc (.cells #[.int .i64 z.1.1, .int .i64 z.1.2, .int .i64 z.2.1, .int .i64 z.2.2] 48) = w0 := ⟨_, rfl⟩
  have HX0 : Hid (Xt w w0) := by unfold Hid; rw [← hw0]; exact (Xt.refl _).alloc _
  have HR0 : Hid (w0.heap[B]? = some (.cells #[.int .i64 z.1.1, .int .i64 z.1.2, .int .i64 z.2.1, .int .i64 z.2.2] 48 (0, 0))) := by unfold Hid; rw [← hw0, ← hB]; exact (MapKept.heap_alloc w _).1
  have HP := Lib.hid (hP.xt HX0.out)
  have HC := Lib.hid (HX0.out.cellsIn _ _ _ hc)
  have HFC : Hid (∀ V, Xt w0 V → V.cell? ⟨rb, 0, none⟩ = some (.slice la l.length lc)) := Lib.hid fun V hV => hV.cellsIn _ _ _ HC.out
  clear h hc hP
  go_enter Tryz.func24, Tryz.ntmps24
  go_wp2_with fail
  go_loopw [5, 6] (fun s5 s6 wr => ∃ (i : Nat) (l1 : List PI), i ≤ l.length ∧ s6 = .int .i64 i ∧ l1.length ≤ i ∧ Hid (PutsG wr w0.heap.size s5 l1) ∧ Hid (∀ x ∈ l1, x ∈ l) ∧ Hid (pis l1 = (pis (l.take i)).filter (fun y => inAr z y.1)) ∧ Hid (Xt w0 wr)) (fun _ s6 _ => l.length - (intOf s6).toNat)
  case atStart => exact ⟨0, [], Nat.zero_le _, rfl, Nat.le_refl _, PutsG.nil _ _, (fun x hx => by cases hx), by unfold Hid; rfl, Xt.refl _⟩
  case round =>
    obtain ⟨i, l1, hi, rfl, hl1, HG, HU, HL, HX⟩ := hrel
    have kc := HFC.out wr HX.out
    by_cases hlt : i < l.length
    · have hki : (i : Int) < (l.length : Int) := by omega
      obtain ⟨x, hx⟩ : ∃ x, l[i]? = some x := ⟨l[i], List.getElem?_eq_getElem hlt⟩
      obtain ⟨b, off, rfl, q0, q1, _, hok, n, hin⟩ := HP.out.at hx
      have hrow := HP.out.row hx
      have HXI := Lib.hid hx
      obtain ⟨vb, hvb⟩ : ∃ v, inAr z x.a = v := ⟨_, rfl⟩
      have HVB := Lib.hid hvb
      have HIN := Lib.hid (fun V => in10_any z.1.1 z.1.2 z.2.1 z.2.2 x.a.1 x.a.2 V)
      rw [show inB z.1.1 z.1.2 z.2.1 z.2.2 x.a.1 x.a.2 = vb from hvb] at HIN
      have HPU := Lib.hid (fun (W : World) (hG : PutsG W w0.heap.size u5 l1) (hW : Xt w0 W) => push_old hG hW x hok ⟨n, hin⟩ (by omega) 29)
      have HF : Hid (∀ V, Xt w0 V → V.cell? ⟨rb, 0, none⟩ = some (.slice (some ⟨b, off, none⟩) l.length lc) ∧ V.cell? ⟨b, off + i * 23, none⟩ = some (.int .i64 x.a.1) ∧ V.cell? ⟨b, off + i * 23 + 1, none⟩ = some (.int .i64 x.a.2) ∧ V.cell? ⟨B, 0, none⟩ = some (.int .i64 z.1.1) ∧ V.cell? ⟨B, 1, none⟩ = some (.int .i64 z.1.2) ∧ V.cell? ⟨B, 2, none⟩ = some (.int .i64 z.2.1) ∧ V.cell? ⟨B, 3, none⟩ = some (.int .i64 z.2.2)) := Lib.hid fun V hV => by
        have hc := hV.cellsIn
        obtain ⟨⟨u0, u1, u2, u3⟩, _⟩ := cells4 (rowX hV HR0.out)
        exact ⟨hc _ _ _ HC.out, hc _ _ _ q0, hc _ _ _ q1, u0, u1, u2, u3⟩
      have HFR : Hid (∀ V, Xt w0 V → V.rangeAt b (off + i * 23) (inC1 x)) := Lib.hid fun V hV j u hu => hV.cellsIn _ _ _ (hrow j u hu)
      clear hx q0 q1 hok hin hvb HFC hrow
      go_upto_region 5 with fail
      refine rg (fun V => Xt w0 V) HX.out.drew fun hHeld => ?_
      refine tk HF.out 0 ?_
      refine tk HF.out 1 ?_
      refine tk HF.out 2 ?_
      refine tk HF.out 3 ?_
      refine tk HF.out 4 ?_
      refine tk HF.out 5 ?_
      refine tk HF.out 6 ?_
      refine tk HF.out 7 ?_
      refine tk HF.out 8 ?_
      refine rdH 9 fun K hK => ?_
      go_simp
      refine (HIN.out _).mono ?_
      rintro e w2 ⟨rfl, hg2⟩
      have HX2 := Lib.hid (HX.out.drew.trans hg2.xt)
      have HG2 := Lib.hid (HG.out.xt ((Xt.refl wr).drew.trans hg2.xt))
      refine ko hK HX2.out fun hHe => ?_
      clear hK K hg2
      refine tk HF.out 10 ?_
      refine wpAnyH_done (by kernel_rfl) ?_ _
      clear hHe hHeld HIN
      obtain ⟨k0, _⟩ := HF.out w2 HX2.out
      cases vb
      · go_wp2_with fail
        go_roundw
        case rel => exact ⟨i + 1, l1, by omega, by go_num, by omega, HG2, HU, by unfold Hid; rw [pis_take HXI.out, List.filter_append, ← HL.out]; simp [HVB.out], HX2⟩
        case measure => simp [intOf]; omega
      · obtain ⟨v', w3, hp, hg3, hx3⟩ := HPU.out w2 HG2.out HX2.out
        have HG3 := Lib.hid hg3
        have HX3 := Lib.hid hx3
        clear hg3 hx3
        go_wp2_with (first
          | (refine wpList_load_mid (P := Tryz.prog) rfl 84 _ rfl b (off + i * 23) rfl (inC1 x) _ (HFR.out _ HX2.out) Tryz.underlying84 rfl (by kernel_rfl) ?_)
          | (refine wpList_one_put rfl _ rfl x rfl ?_)
          | (at_builtin; refine Lib.wpList_append_run _ rfl _ _ _ _ rfl _ _ rfl rfl _ _ hp ?_; clear hp))
        go_roundw
        case rel => exact ⟨i + 1, _, by omega, by go_num, by simp; omega, HG3, (fun y hy => (List.mem_append.1 hy).elim (HU.out y) (fun e => by rw [List.mem_singleton.1 e]; exact List.mem_of_getElem? HXI.out)), by unfold Hid; rw [pis_snoc, pis_take HXI.out, List.filter_append, ← HL.out]; simp [HVB.out], HX3⟩
        case measure => simp [intOf]; omega
    · have hki : ¬ (i : Int) < (l.length : Int) := by omega
      obtain rfl : i = l.length := by omega
      go_wp2_with fail
      go_ret
      exact ⟨_, l1, w0.heap.size, rfl, HX0.out.size, HG.out, by have := HL.out; rwa [List.take_length] at this, HU.out, HX0.out.trans HX.out⟩
end
end Go.Proofs.YtideclfpbpjebaaGreatDoor
