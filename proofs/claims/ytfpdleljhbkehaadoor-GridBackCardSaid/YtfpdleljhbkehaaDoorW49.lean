/- Puts: what leads from one grid to another. -/
import Derived.Test.YtfpdleljhbkehaaDoorB3
import Derived.Test.YtfpdleljhbkehaaDoorA7
import Derived.Test.YtfpdleljhbkehaaDoorB2
import Derived.Test.YtfpdleljhbkehaaDoorB6
import Derived.Deep.RegionHeld3
import Derived.Deep.MidRow
namespace Go.Proofs.YtfpdleljhbkehaaDoor
open Go.RowKit Go.Sort Go.Maps Go.Shelf

/-! ### the cells of both; what differs -/
theorem sorted_ext : ∀ {l k : List Ad}, l.Pairwise (fun x y => adLt x y = true) → k.Pairwise (fun x y => adLt x y = true) → (∀ a, a ∈ l ↔ a ∈ k) → l = k := fun {l k} hl hk h => by
  have nd : ∀ {l : List Ad}, l.Pairwise (fun x y => adLt x y = true) → l.Nodup := fun hl => hl.imp fun {a b} hlt e => by rw [e, adLt_irrefl] at hlt; cases hlt
  have hp : l.Perm k := (List.perm_ext_iff_of_nodup (nd hl) (nd hk)).2 h
  exact (sortL_of hl hp.symm).symm.trans (sortL_of hk (List.Perm.refl _))
theorem setM_key {a : Ad} {m : List (Ad × Unit)} {b : Ad} : b ∈ (setM a () m).map (·.1) ↔ b = a ∨ b ∈ m.map (·.1) := by
  rw [← lkM_mem_iff, ← lkM_mem_iff, lkM_set]
  by_cases h : a = b
  · simp [h]
  · have : ¬ b = a := fun e => h e.symm
    simp [h, this]
theorem unit_sorted {M : GM} (h : SortedM M) : SortedM (M.map fun x => (x.1, ())) := by
  unfold SortedM at *
  rw [List.pairwise_map]
  exact h
theorem fold_keys : ∀ (M : GM) (m : List (Ad × Unit)), SortedM m → SortedM (M.foldl (fun m x => setM x.1 () m) m) ∧ (∀ b, b ∈ (M.foldl (fun m x => setM x.1 () m) m).map (·.1) ↔ b ∈ m.map (·.1) ∨ b ∈ M.map (·.1)) ∧ (M.foldl (fun m x => setM x.1 () m) m).length ≤ m.length + M.length
  | [], m, h => ⟨h, fun b => by simp, by simp⟩
  | x :: r, m, h => by
    obtain ⟨h1, h2, h3⟩ := fold_keys r (setM x.1 () m) (sorted_setM _ _ h)
    refine ⟨h1, fun b => ?_, ?_⟩
    · rw [List.foldl_cons, h2 b, setM_key, List.map_cons, List.mem_cons]
      constructor
      · rintro ((h | h) | h)
        · exact Or.inr (Or.inl h)
        · exact Or.inl h
        · exact Or.inr (Or.inr h)
      · rintro (h | h | h)
        · exact Or.inl (Or.inr h)
        · exact Or.inl (Or.inl h)
        · exact Or.inr h
    · rw [List.foldl_cons, List.length_cons]
      have := len_setM_le (a := x.1) (l := ()) (M := m)
      omega
def unionK (M1 M2 : GM) : List Ad := (M2.foldl (fun m x => setM x.1 () m) (M1.map fun x => (x.1, ()))).map (·.1)
theorem unionK_sorted {M1 : GM} (h : SortedM M1) (M2 : GM) : (unionK M1 M2).Pairwise (fun x y => adLt x y = true) := by
  unfold unionK
  rw [List.pairwise_map]
  exact (fold_keys M2 _ (unit_sorted h)).1
theorem unionK_mem {M1 : GM} (h : SortedM M1) (M2 : GM) (a : Ad) : a ∈ unionK M1 M2 ↔ a ∈ M1.map (·.1) ∨ a ∈ M2.map (·.1) := by
  unfold unionK
  rw [(fold_keys M2 _ (unit_sorted h)).2.1 a, List.map_map]; rfl
theorem unionK_len {M1 : GM} (h : SortedM M1) (M2 : GM) : (unionK M1 M2).length ≤ M1.length + M2.length := by
  unfold unionK
  rw [List.length_map]
  have := (fold_keys M2 _ (unit_sorted h)).2.2
  simpa using this
abbrev getM (M : GM) (a : Ad) : CE := (lkM a M).getD (zeroC, none)
noncomputable def diffAt (M1 M2 : GM) (a : Ad) : Bool := !sameCB (getM M1 a).1 (getM M2 a).1
noncomputable def putsK (M1 M2 : GM) (l : List Ad) : List (Ad × ContT) := (l.filter (diffAt M1 M2)).map (fun a => (a, copyC (getM M2 a).1))
theorem putsK_len (M1 M2 : GM) (l : List Ad) : (putsK M1 M2 l).length ≤ l.length := by
  unfold putsK
  rw [List.length_map]
  exact List.length_filter_le ..
theorem putsK_yes {M1 M2 : GM} {l : List Ad} {i : Nat} {a : Ad} (h : l[i]? = some a) (hd : sameCB (getM M1 a).1 (getM M2 a).1 = false) : putsK M1 M2 (l.take (i + 1)) = putsK M1 M2 (l.take i) ++ [(a, copyC (getM M2 a).1)] := by
  unfold putsK
  rw [List.take_add_one, h]; simp [diffAt, hd]
theorem putsK_no {M1 M2 : GM} {l : List Ad} {i : Nat} {a : Ad} (h : l[i]? = some a) (hd : sameCB (getM M1 a).1 (getM M2 a).1 = true) : putsK M1 M2 (l.take (i + 1)) = putsK M1 M2 (l.take i) := by
  unfold putsK
  rw [List.take_add_one, h]; simp [diffAt, hd]
theorem GridIs.lookAt {w : World} {gb mb : Nat} {M : GM} (h : GridIs w gb mb M) : ∃ E, MapIs w mb E ∧ ∀ W, MapIs W mb E → ∀ a : Ad, (Instr.lookup 63 (.map (some mb)) (.agg #[.int .i64 a.1, .int .i64 a.2]) false).run Tryd.prog W = .ok (ceV (getM M a)) W := by
  obtain ⟨E, hm, he⟩ := h.map
  refine ⟨E, hm, fun W hW a => ?_⟩
  have := hW.lookup (P := Tryd.prog) (t := 63) (k := 26) (e := 33) adrKey Tryd.underlying63 zeroCon a
  rw [he a] at this
  unfold getM
  cases hl : lkM a M with
  | none => rw [hl] at this; exact this
  | some x => rw [hl] at this; exact this
theorem clipPut_any (a : Option Addr) (n cap : Nat) (w : World) (h : n ≤ cap) (_hc : cap ≤ 9223372036854775807) : Calls Tryd.prog 39 #[.slice a n cap] w fun e w' => e = .returned (.slice a n n) ∧ w = w' := by
  go_enter Tryd.func39, Tryd.ntmps39
  go_wp2
  all_goals (go_ret; exact ⟨by simp, rfl⟩)
theorem sortedKeys_any (wb : World) (b : Nat) (E : List (Ad × Value)) (U : List Ad) (hm : MapIs wb b E) (hU : U.Pairwise (fun x y => adLt x y = true)) (hmem : ∀ a, a ∈ U ↔ (lk a E).isSome = true) (hl : U.length ≤ 8192) :
    Calls Tryd.prog 36 #[.func (.func 56) #[] #[.pointer (some ⟨wb.heap.size, 0, none⟩)], .func (.func 38) #[] #[]] (wb.alloc (.cells #[.map (some b)] 63)) fun e w' => ∃ a c, e = .returned (.slice a U.length c) ∧ U.length ≤ c ∧ c ≤ 9223372036854775807 ∧ OwnL w' (wb.heap.size + 1) 26 2 adC (.slice a U.length c) U ∧ Xt wb w' := by
  have hp : (E.map (·.1)).Perm U := by
    refine (List.perm_ext_iff_of_nodup hm.nodup (hU.imp fun {a b} hlt e => by rw [e, adLt_irrefl] at hlt; cases hlt)).2 fun a => ?_
    rw [hmem a, lk_mem_iff]
  have hlen : E.length = U.length := by have := hp.length_eq; simpa using this
  have hx : Xt wb (wb.alloc (.cells #[.map (some b)] 63)) := (Xt.refl wb).alloc _
  have hmb : MapIs (wb.alloc (.cells #[.map (some b)] 63)) b E := hm.of_heap (hx.block b hm.lt)
  refine ((callsIn_wide (n := 30)).1 (sortedFunc_in 56 #[.pointer (some ⟨wb.heap.size, 0, none⟩)] (enters_of Tryd.func56 (by kernel_rfl) rfl) _ _ E.length (by omega) (fun ks hk => by have := hk.length_eq; simp at this; omega) 30 (by omega) _ (keys_stops Fence.wide (30 - 1 - 1 - 1) trivial rfl (by omega) wb.heap.size b E _ (by simp) (by simp) hmb))).mono ?_
  rintro e w' ⟨v, ks, rfl, hS, ho, hbc⟩
  rw [sortL_of hU (hS.trans hp)] at ho
  obtain ⟨a, c, rfl, h1, h2⟩ := OwnL.slice ho (n := U.length) rfl
  exact ⟨a, c, rfl, h1, h2, by simpa using ho, hx.trans hbc⟩
theorem gcopy_in {w : World} {y : CE} (h : ceIn w y) : Calls Tryd.prog 29 #[ceV y] w fun e w' => ∃ z : CE, z.1 = copyC y.1 ∧ e = .returned (ceV z) ∧ (smallT z.1.t ∧ ∃ n, ArgsS (fun b => w.heap.size ≤ b) w' n (.slice z.2 z.1.t.args.length z.1.t.args.length) z.1.t.args) ∧ Xt w w' := by
  obtain ⟨hs, n, hn⟩ := h
  refine (gcopy_any n y.1 y.2 _ w hs hn).mono ?_
  rintro e w' ⟨a', rfl, hA, hx⟩
  refine ⟨(copyC y.1, a'), rfl, by rw [ceV_copy], ⟨smallT_copy _ hs, n, ?_⟩, hx⟩
  show ArgsS _ _ _ (.slice a' (copyT y.1.t).args.length (copyT y.1.t).args.length) (copyT y.1.t).args
  rw [copyT_len, copyT_args]
  exact hA
set_option maxRecDepth 100000 in
set_option maxHeartbeats 8000000 in
theorem gputs_any (g1 g2 b1 b2 : Nat) (M1 M2 : GM) (w : World) (h1 : GridIs w g1 b1 M1) (h2 : GridIs w g2 b2 M2) :
    Calls Tryd.prog 16 #[.pointer (some ⟨g1, 0, none⟩), .pointer (some ⟨g2, 0, none⟩)] w fun e w' => ∃ a c l, e = .returned (.slice a l.length l.length) ∧ PutsOwn w' w.heap.size (.slice a l.length c) l ∧ l.map (fun x => (x.1, x.2.1)) = putsK M1 M2 (unionK M1 M2) ∧ Xt w w' := by
  have H1 := Lib.hid h1
  have H2 := Lib.hid h2
  have c1 := h1.cell
  have c2 := h2.cell
  obtain ⟨E1, hm1, he1⟩ := h1.map
  have hl1 := h1.len hm1 he1
  have hp1 := h1.keys hm1 he1
  have hE1 := hm1
  obtain ⟨es, clock, hes, hst, hkv⟩ := hm1
  obtain ⟨wa, hwa⟩ : ∃ wa, w.alloc (.map es clock) = wa := ⟨_, rfl⟩
  have hma : MapIs wa w.heap.size E1 := by rw [← hwa]; exact ⟨es, clock, (MapKept.heap_alloc w _).1, hst, hkv⟩
  have hxa : Xt w wa := by rw [← hwa]; exact (Xt.refl w).alloc _
  have hsa : wa.heap.size = w.heap.size + 1 := by rw [← hwa]; simp
  have ca2 : wa.cell? ⟨g2, 0, none⟩ = some (.map (some b2)) := ((hxa.cells).1 _ 0 h2.lt.1).trans c2
  have HC := Lib.hid (mclone_any b1 es clock w hes)
  have HCP := Lib.hid (mcopy_any w.heap.size b2 E1 M2 wa (by have := h2.lt.2; omega) hma (h2.xt hxa).mapG)
  have HKY := Lib.hid (fun W => (callsIn_wide (n := 30)).1 (keys_in Fence.wide 30 trivial rfl (some w.heap.size) W))
  have HUS := Lib.hid (unionK_sorted h1.sorted M2)
  have HUM := Lib.hid (unionK_mem h1.sorted M2)
  have HUL := Lib.hid (show (unionK M1 M2).length ≤ 8192 by have := unionK_len h1.sorted M2; have := h1.many; have := h2.many; omega)
  have HISO : Hid (∀ a, (lk a E1).isSome = (lkM a M1).isSome) := fun a => by rw [he1 a]; simp
  clear he1 hl1 hp1 hE1 hes hst hkv h1 h2
  have HX0 := Lib.hid hxa
  have HSZ := Lib.hid hsa
  have HMA := Lib.hid hma.lt
  generalize hU : unionK M1 M2 = U at HUS HUM HUL
  have HU := Lib.hid hU
  have HSF : Hid (∀ wb E', MapIs wb w.heap.size E' → (∀ a, (lk a E').isSome = ((lk a E1).isSome || (lkM a M2).isSome)) → Calls Tryd.prog 36 #[.func (.func 56) #[] #[.pointer (some ⟨wb.heap.size, 0, none⟩)], .func (.func 38) #[] #[]] (wb.alloc (.cells #[.map (some w.heap.size)] 63)) fun e w' => ∃ a c, e = .returned (.slice a U.length c) ∧ U.length ≤ c ∧ c ≤ 9223372036854775807 ∧ OwnL w' (wb.heap.size + 1) 26 2 adC (.slice a U.length c) U ∧ Xt wb w') :=
    fun wb E' hm hs => sortedKeys_any wb w.heap.size E' U hm HUS.out (fun a => by rw [HUM.out a, hs a, HISO.out a, Bool.or_eq_true, lkM_mem_iff, lkM_mem_iff]) HUL.out
  clear hU hxa hsa hma
  go_enter Tryd.func16, Tryd.ntmps16
  go_wp2_with (first
    | (go_at_call 34; refine (HC.out).mono ?_; rintro e w' ⟨rfl, rfl⟩; rw [hwa])
    | (go_at_call 35; refine (HCP.out).mono ?_; rintro e wb ⟨⟨v0, rfl⟩, ⟨E', hME, hSO⟩, hgb⟩; have HME := Lib.hid hME; have HSO := Lib.hid hSO; have HGB := Lib.hid hgb; clear hME hSO hgb)
    | (go_at_call 37; refine (HKY.out _).mono ?_; rintro e w' ⟨rfl, rfl⟩)
    | (go_at_call 36; refine (HSF.out _ _ HME.out HSO.out).mono ?_; rintro e wc ⟨ka, kc, rfl, hkc, hkc2, hko, hxc⟩; have HKO := Lib.hid hko; have HXC := Lib.hid hxc; clear hko hxc))
  have HXW : Hid (Xt w wc) := (HX0.out.grownB HGB.out (fun m hm => by cases hm; exact Nat.le_refl _)).trans HXC.out
  have HKB := Lib.hid (show wb.heap.size ≤ wc.heap.size from HXC.out.size)
  obtain ⟨E2, hE2, HLK2⟩ := H2.out.lookAt
  obtain ⟨E1', hE1', HLK1⟩ := H1.out.lookAt
  have HLK2 := Lib.hid (fun W (hx : Xt w W) => HLK2 W (hE2.of_heap (hx.block b2 hE2.lt)))
  have HLK1 := Lib.hid (fun W (hx : Xt w W) => HLK1 W (hE1'.of_heap (hx.block b1 hE1'.lt)))
  have HG1 := Lib.hid (fun W (hx : Xt w W) => ((hx.cells).1 g1 0 H1.out.lt.1).trans H1.out.cell)
  have HG2 := Lib.hid (fun W (hx : Xt w W) => ((hx.cells).1 g2 0 H2.out.lt.1).trans H2.out.cell)
  have HCI1 := Lib.hid (fun W (hx : Xt w W) a => (H1.out.lookIn a).kept hx.cellsIn)
  have HCI2 := Lib.hid (fun W (hx : Xt w W) a => (H2.out.lookIn a).kept hx.cellsIn)
  clear hE2 hE1' c1 c2 ca2 hwa HC HCP HKY HSF HME HSO HGB HISO HX0 HSZ HMA
  go_loopw [6, 31] (fun s6 s31 wr => ∃ (i : Nat) (l : List PutE), i ≤ U.length ∧ s31 = .int .i64 i ∧ Hid (PutsOwn wr wc.heap.size s6 l) ∧ Hid (l.map (fun x => (x.1, x.2.1)) = putsK M1 M2 (U.take i)) ∧ Hid (Xt wc wr)) (fun _ s31 _ => U.length - (intOf s31).toNat)
  case atStart => exact ⟨0, [], Nat.zero_le _, rfl, PutsOwn.nil _ _, by unfold Hid; rfl, Xt.refl _⟩
  case round =>
    obtain ⟨i, l, hi, rfl, HO, HPL, HX⟩ := hrel
    by_cases hlt : i < U.length
    · obtain ⟨x0, hx0⟩ : ∃ x0, U[i]? = some x0 := ⟨U[i], by simp [hlt]⟩
      obtain ⟨c, d⟩ := x0
      have hki : (i : Int) < (U.length : Int) := by omega
      obtain ⟨kb, koff, rfl, k0, k1⟩ := keys_at (HKO.out.xt HX.out) hx0
      have HXI := Lib.hid hx0
      obtain ⟨wq, hwq, hbq, hsq, q0, q1⟩ := box1 wr c d 26
      have hxq : Xt wr wq.drew := Xt.drew hbq
      have hxwq : Xt w wq.drew := HXW.out.trans (HX.out.trans hxq)
      have HCY := Lib.hid (fun W (hx : Xt w W) => HCI2.out W hx (c, d))
      have HCX := Lib.hid (fun W (hx : Xt w W) => HCI1.out W hx (c, d))
      have HLY := Lib.hid (fun W (hx : Xt w W) => HLK2.out W hx (c, d))
      have HLX := Lib.hid (fun W (hx : Xt w W) => HLK1.out W hx (c, d))
      have HNO := Lib.hid (putsK_no (M1 := M1) (M2 := M2) hx0)
      have HYE := Lib.hid (putsK_yes (M1 := M1) (M2 := M2) hx0)
      change Hid (∀ W, Xt w W → ceIn W (getM M2 (c, d))) at HCY
      change Hid (∀ W, Xt w W → ceIn W (getM M1 (c, d))) at HCX
      generalize getM M2 (c, d) = y at HCY HLY HNO HYE
      generalize getM M1 (c, d) = x at HCX HLX HNO HYE
      clear hx0 hbq
      go_wp2_with fail
      -- region 9
      refine wp_region_held_drew (S := fun W => W.cell? ⟨wr.heap.size, 0, none⟩ = some (.int .i64 c) ∧ W.cell? ⟨wr.heap.size, 1, none⟩ = some (.int .i64 d) ∧ W.cell? ⟨g2, 0, none⟩ = some (.map (some b2)) ∧ (Instr.lookup 63 (.map (some b2)) (.agg #[.int .i64 c, .int .i64 d]) false).run Tryd.prog W = .ok (ceV y) W) (by kernel_rfl) ⟨q0, q1, HG2.out _ hxwq, HLY.out _ hxwq⟩ (fun hHeld => ?_)
      refine wpAnyH_take (i := 0) (oi := _) (v := ?_) rfl (by kernel_rfl) (by kernel_rfl) (by kernel_rfl) (fun _ _ _ h => h) (Or.inl ⟨by rfl, ?_⟩) (by assumption) ?_
      rotate_left
      · intro w hSw; (try dsimp only at hSw); obtain ⟨k0, k1, kg, kl⟩ := hSw; go_simp; first | done | with_reducible rfl
      try simp only [Act.put, List.getElem_toArray, List.getElem_cons_zero, List.getElem_cons_succ, List.setIfInBounds_toArray, List.set_cons_zero, List.set_cons_succ]
      refine wpAnyH_take (i := 1) (oi := _) (v := ?_) rfl (by kernel_rfl) (by kernel_rfl) (by kernel_rfl) (fun _ _ _ h => h) (Or.inl ⟨by rfl, ?_⟩) (by assumption) ?_
      rotate_left
      · intro w hSw; (try dsimp only at hSw); obtain ⟨k0, k1, kg, kl⟩ := hSw; go_simp; first | done | with_reducible rfl
      try simp only [Act.put, List.getElem_toArray, List.getElem_cons_zero, List.getElem_cons_succ, List.setIfInBounds_toArray, List.set_cons_zero, List.set_cons_succ]
      refine wpAnyH_take (i := 2) (oi := _) (v := ?_) rfl (by kernel_rfl) (by kernel_rfl) (by kernel_rfl) (fun _ _ _ h => h) (Or.inl ⟨by rfl, ?_⟩) (by assumption) ?_
      rotate_left
      · intro w hSw; (try dsimp only at hSw); obtain ⟨k0, k1, kg, kl⟩ := hSw; go_simp; first | done | with_reducible rfl
      try simp only [Act.put, List.getElem_toArray, List.getElem_cons_zero, List.getElem_cons_succ, List.setIfInBounds_toArray, List.set_cons_zero, List.set_cons_succ]
      refine wpAnyH_take (i := 3) (oi := _) (v := ?_) rfl (by kernel_rfl) (by kernel_rfl) (by kernel_rfl) (fun _ _ _ h => h) (Or.inl ⟨by rfl, ?_⟩) (by assumption) ?_
      rotate_left
      · intro w hSw; (try dsimp only at hSw); obtain ⟨k0, k1, kg, kl⟩ := hSw; go_simp; first | done | with_reducible rfl
      try simp only [Act.put, List.getElem_toArray, List.getElem_cons_zero, List.getElem_cons_succ, List.setIfInBounds_toArray, List.set_cons_zero, List.set_cons_succ]
      refine wpAnyH_take (i := 4) (oi := _) (v := ?_) rfl (by kernel_rfl) (by kernel_rfl) (by kernel_rfl) (fun _ _ _ h => h) (Or.inl ⟨by rfl, ?_⟩) (by assumption) ?_
      rotate_left
      · intro w hSw; (try dsimp only at hSw); obtain ⟨k0, k1, kg, kl⟩ := hSw; go_simp; first | done | with_reducible rfl
      try simp only [Act.put, List.getElem_toArray, List.getElem_cons_zero, List.getElem_cons_succ, List.setIfInBounds_toArray, List.set_cons_zero, List.set_cons_succ]
      refine wpAnyH_take (i := 5) (oi := _) (v := ?_) rfl (by kernel_rfl) (by kernel_rfl) (by kernel_rfl) (fun _ _ _ h => h) (Or.inl ⟨by rfl, ?_⟩) (by assumption) ?_
      rotate_left
      · intro w hSw; (try dsimp only at hSw); obtain ⟨k0, k1, kg, kl⟩ := hSw; go_simp; first | done | with_reducible rfl
      try simp only [Act.put, List.getElem_toArray, List.getElem_cons_zero, List.getElem_cons_succ, List.setIfInBounds_toArray, List.set_cons_zero, List.set_cons_succ]
      obtain ⟨wZ, wR, hwZ, hwR, hrZ, hrR, hxR, hsR, hxZ, hsZ⟩ := boxR wq.drew y
      have hsd : wq.drew.heap.size = wr.heap.size + 1 := hsq
      rw [hsd] at hwR hrZ hrR
      have hwZs : wr.heap.size < wq.drew.heap.size := by omega
      have hSZ : wZ.cell? ⟨wr.heap.size, 0, none⟩ = some (.int .i64 c) ∧ wZ.cell? ⟨wr.heap.size, 1, none⟩ = some (.int .i64 d) ∧ wZ.cell? ⟨g2, 0, none⟩ = some (.map (some b2)) ∧ (Instr.lookup 63 (.map (some b2)) (.agg #[.int .i64 c, .int .i64 d]) false).run Tryd.prog wZ = .ok (ceV y) wZ := ⟨((hxZ.cells).1 _ 0 hwZs).trans q0, ((hxZ.cells).1 _ 1 hwZs).trans q1, HG2.out _ (hxwq.trans hxZ), HLY.out _ (hxwq.trans hxZ)⟩
      have hSR : wR.cell? ⟨wr.heap.size, 0, none⟩ = some (.int .i64 c) ∧ wR.cell? ⟨wr.heap.size, 1, none⟩ = some (.int .i64 d) ∧ wR.cell? ⟨g2, 0, none⟩ = some (.map (some b2)) ∧ (Instr.lookup 63 (.map (some b2)) (.agg #[.int .i64 c, .int .i64 d]) false).run Tryd.prog wR = .ok (ceV y) wR := ⟨((hxR.cells).1 _ 0 hwZs).trans q0, ((hxR.cells).1 _ 1 hwZs).trans q1, HG2.out _ (hxwq.trans hxR), HLY.out _ (hxwq.trans hxR)⟩
      have HSZ := Lib.hid hSZ
      have HSR := Lib.hid hSR
      clear hSZ
      refine wpAnyH_ready (rs := [6]) (by kernel_rfl) (by simp) ?_
      refine AllReadyH.cons (o := _) rfl (fun K hK => ?_) AllReadyH.nil
      go_simp
      refine hK.out _ _ HSZ.out (fun hHeld2 => ?_)
      clear hK K
      try simp only [Act.put, List.getElem_toArray, List.getElem_cons_zero, List.getElem_cons_succ, List.setIfInBounds_toArray, List.set_cons_zero, List.set_cons_succ]
      refine wpAnyH_ready (rs := [7]) (by kernel_rfl) (by simp) ?_
      refine AllReadyH.cons (o := _) rfl (fun K hK => ?_) AllReadyH.nil
      rw [if_pos (by rfl)]
      refine wp_store_row (P := Tryd.prog) 33 _ _ rfl (wr.heap.size + 1) #[.int .i64 y.1.kind, .int .i64 y.1.v.kind, .float .f64 y.1.v.x, .string y.1.v.s, .bool y.1.v.b, .int .i64 y.1.v.f, .int .i64 y.1.t.kind, .int .i64 y.1.t.op, .float .f64 y.1.t.x, .string y.1.t.s, .bool y.1.t.b, .int .i64 y.1.t.f, .int .i64 y.1.t.ref.a.1, .int .i64 y.1.t.ref.a.2, .bool y.1.t.ref.cf, .bool y.1.t.ref.rf, .int .i64 y.1.t.to.a.1, .int .i64 y.1.t.to.a.2, .bool y.1.t.to.cf, .bool y.1.t.to.rf, .slice y.2 y.1.t.args.length y.1.t.args.length] rfl rfl 33 _ hrZ (by kernel_rfl) rfl (by simp [Value.oneCell']) ?_
      rw [hwR]
      refine hK.out _ _ HSR.out (fun hHeld3 => ?_)
      clear hK K
      refine wpAnyH_done (by kernel_rfl) ?_ _
      have hxwR : Xt w wR.drew := (hxwq.trans hxR).drew
      have r0 : wR.drew.cell? ⟨wr.heap.size, 0, none⟩ = some (.int .i64 c) := hSR.1
      have r1 : wR.drew.cell? ⟨wr.heap.size, 1, none⟩ = some (.int .i64 d) := hSR.2.1
      have rr : wR.drew.heap[wr.heap.size + 1]? = some (.cells (ceC y).toArray 33 (0, 0)) := hrR
      have HSM := Lib.hid (gsame_in (HCX.out _ hxwR) (HCY.out _ hxwR))
      have HXR := Lib.hid (Xt.trans hxq hxR)
      clear hwZ hwR hrZ hrR hxZ hsZ HSZ HSR hSR hwq q0 q1 k0 k1
      go_wp2_with fail
      -- region 10
      refine wp_region_held_drew (S := fun W => W.cell? ⟨wr.heap.size, 0, none⟩ = some (.int .i64 c) ∧ W.cell? ⟨wr.heap.size, 1, none⟩ = some (.int .i64 d) ∧ W.cell? ⟨g1, 0, none⟩ = some (.map (some b1)) ∧ (Instr.lookup 63 (.map (some b1)) (.agg #[.int .i64 c, .int .i64 d]) false).run Tryd.prog W = .ok (ceV x) W ∧ W.heap[wr.heap.size + 1]? = some (.cells (ceC y).toArray 33 (0, 0))) (by kernel_rfl) ⟨r0, r1, HG1.out _ hxwR, HLX.out _ hxwR, rr⟩ (fun hHeld => ?_)
      refine wpAnyH_take (i := 0) (oi := _) (v := ?_) rfl (by kernel_rfl) (by kernel_rfl) (by kernel_rfl) (fun _ _ _ h => h) (Or.inl ⟨by rfl, ?_⟩) (by assumption) ?_
      rotate_left
      · intro w hSw; (try dsimp only at hSw); obtain ⟨k0, k1, kg, kl, kr⟩ := hSw; clear kr; go_simp; first | done | with_reducible rfl
      try simp only [Act.put, List.getElem_toArray, List.getElem_cons_zero, List.getElem_cons_succ, List.setIfInBounds_toArray, List.set_cons_zero, List.set_cons_succ]
      refine wpAnyH_take (i := 1) (oi := _) (v := ?_) rfl (by kernel_rfl) (by kernel_rfl) (by kernel_rfl) (fun _ _ _ h => h) (Or.inl ⟨by rfl, ?_⟩) (by assumption) ?_
      rotate_left
      · intro w hSw; (try dsimp only at hSw); obtain ⟨k0, k1, kg, kl, kr⟩ := hSw; clear kr; go_simp; first | done | with_reducible rfl
      try simp only [Act.put, List.getElem_toArray, List.getElem_cons_zero, List.getElem_cons_succ, List.setIfInBounds_toArray, List.set_cons_zero, List.set_cons_succ]
      refine wpAnyH_take (i := 2) (oi := _) (v := ?_) rfl (by kernel_rfl) (by kernel_rfl) (by kernel_rfl) (fun _ _ _ h => h) (Or.inl ⟨by rfl, ?_⟩) (by assumption) ?_
      rotate_left
      · intro w hSw; (try dsimp only at hSw); obtain ⟨k0, k1, kg, kl, kr⟩ := hSw; clear kr; go_simp; first | done | with_reducible rfl
      try simp only [Act.put, List.getElem_toArray, List.getElem_cons_zero, List.getElem_cons_succ, List.setIfInBounds_toArray, List.set_cons_zero, List.set_cons_succ]
      refine wpAnyH_take (i := 3) (oi := _) (v := ?_) rfl (by kernel_rfl) (by kernel_rfl) (by kernel_rfl) (fun _ _ _ h => h) (Or.inl ⟨by rfl, ?_⟩) (by assumption) ?_
      rotate_left
      · intro w hSw; (try dsimp only at hSw); obtain ⟨k0, k1, kg, kl, kr⟩ := hSw; clear kr; go_simp; first | done | with_reducible rfl
      try simp only [Act.put, List.getElem_toArray, List.getElem_cons_zero, List.getElem_cons_succ, List.setIfInBounds_toArray, List.set_cons_zero, List.set_cons_succ]
      refine wpAnyH_take (i := 4) (oi := _) (v := ?_) rfl (by kernel_rfl) (by kernel_rfl) (by kernel_rfl) (fun _ _ _ h => h) (Or.inl ⟨by rfl, ?_⟩) (by assumption) ?_
      rotate_left
      · intro w hSw; (try dsimp only at hSw); obtain ⟨k0, k1, kg, kl, kr⟩ := hSw; clear kr; go_simp; first | done | with_reducible rfl
      try simp only [Act.put, List.getElem_toArray, List.getElem_cons_zero, List.getElem_cons_succ, List.setIfInBounds_toArray, List.set_cons_zero, List.set_cons_succ]
      refine wpAnyH_take (i := 5) (oi := _) (v := ?_) rfl (by kernel_rfl) (by kernel_rfl) (by kernel_rfl) (fun _ _ _ h => h) (Or.inl ⟨by rfl, ?_⟩) (by assumption) ?_
      rotate_left
      · intro w hSw; (try dsimp only at hSw); obtain ⟨k0, k1, kg, kl, kr⟩ := hSw; clear kr; go_simp; first | done | with_reducible rfl
      try simp only [Act.put, List.getElem_toArray, List.getElem_cons_zero, List.getElem_cons_succ, List.setIfInBounds_toArray, List.set_cons_zero, List.set_cons_succ]
      refine wpAnyH_take (i := 6) (oi := _) (v := .agg (ceC y).toArray) rfl (by kernel_rfl) (by kernel_rfl) (by kernel_rfl) (fun _ _ _ h => h) (Or.inl ⟨by rfl, ?_⟩) (by assumption) ?_
      · intro w hSw; exact exec_load_row 33 _ (by rfl) (wr.heap.size + 1) (by rfl) 33 (ceC y).toArray (0, 0) _ hSw.2.2.2.2 Tryd.underlying33 rfl (by kernel_rfl)
      try simp only [Act.put, List.getElem_toArray, List.getElem_cons_zero, List.getElem_cons_succ, List.setIfInBounds_toArray, List.set_cons_zero, List.set_cons_succ]
      refine wpAnyH_ready (rs := [7]) (by kernel_rfl) (by simp) ?_
      refine AllReadyH.cons (o := _) rfl (fun K hK => ?_) AllReadyH.nil
      go_simp
      refine (HSM.out).mono ?_
      rintro e w6 ⟨rfl, hg6⟩
      have h6 : Xt wR.drew w6 := hg6.xt
      have hwRs : wr.heap.size + 1 < wR.drew.heap.size := (Array.getElem?_eq_some_iff.1 rr).1
      have hxw6 := hxwR.trans h6
      have HX6 := Lib.hid (Xt.trans (Xt.drew HXR.out) h6)
      have t0 := ((h6.cells).1 _ 0 (by omega)).trans r0
      have t1 := ((h6.cells).1 _ 1 (by omega)).trans r1
      have tr := (h6.block _ hwRs).trans rr
      refine hK.out _ _ ⟨t0, t1, HG1.out _ hxw6, HLX.out _ hxw6, tr⟩ (fun hHeld2 => ?_)
      clear hK K
      try simp only [Act.put, List.getElem_toArray, List.getElem_cons_zero, List.getElem_cons_succ, List.setIfInBounds_toArray, List.set_cons_zero, List.set_cons_succ]
      clear r0 r1 rr hg6 hxwR HSM
      cases hsm : sameCB x.1 y.1
      · rw [hsm] at HYE
        have HYE2 := Lib.hid (HYE.out rfl)
        refine wpAnyH_take (i := 8) (oi := _) (v := ?_) rfl (by kernel_rfl) (by kernel_rfl) (by kernel_rfl) (fun _ _ _ h => h) (Or.inl ⟨by rfl, ?_⟩) (by assumption) ?_
        rotate_left
        · intro w hSw; (try dsimp only at hSw); skip; go_simp; first | done | with_reducible rfl
        try simp only [Act.put, List.getElem_toArray, List.getElem_cons_zero, List.getElem_cons_succ, List.setIfInBounds_toArray, List.set_cons_zero, List.set_cons_succ]
        refine wpAnyH_done (by kernel_rfl) ?_ _
        go_wp2_with fail
        -- region 11
        have hx6d : Xt w w6.drew := hxw6.drew
        have HCP2 := Lib.hid (gcopy_in (HCY.out _ hx6d))
        have HX6d : Hid (Xt wr w6.drew) := HX6.out.drew
        have hs6 : wr.heap.size + 1 < w6.drew.heap.size := (Array.getElem?_eq_some_iff.1 tr).1
        refine wp_region_held_drew (S := fun W => W.cell? ⟨wr.heap.size, 0, none⟩ = some (.int .i64 c) ∧ W.cell? ⟨wr.heap.size, 1, none⟩ = some (.int .i64 d) ∧ W.heap[wr.heap.size + 1]? = some (.cells (ceC y).toArray 33 (0, 0))) (by kernel_rfl) ⟨t0, t1, tr⟩ (fun hHeld => ?_)
        refine wpAnyH_take (i := 0) (oi := _) (v := ?_) rfl (by kernel_rfl) (by kernel_rfl) (by kernel_rfl) (fun _ _ _ h => h) (Or.inl ⟨by rfl, ?_⟩) (by assumption) ?_
        rotate_left
        · intro w hSw; (try dsimp only at hSw); obtain ⟨k0, k1, kr⟩ := hSw; clear kr; go_simp; first | done | with_reducible rfl
        try simp only [Act.put, List.getElem_toArray, List.getElem_cons_zero, List.getElem_cons_succ, List.setIfInBounds_toArray, List.set_cons_zero, List.set_cons_succ]
        refine wpAnyH_take (i := 1) (oi := _) (v := ?_) rfl (by kernel_rfl) (by kernel_rfl) (by kernel_rfl) (fun _ _ _ h => h) (Or.inl ⟨by rfl, ?_⟩) (by assumption) ?_
        rotate_left
        · intro w hSw; (try dsimp only at hSw); obtain ⟨k0, k1, kr⟩ := hSw; clear kr; go_simp; first | done | with_reducible rfl
        try simp only [Act.put, List.getElem_toArray, List.getElem_cons_zero, List.getElem_cons_succ, List.setIfInBounds_toArray, List.set_cons_zero, List.set_cons_succ]
        refine wpAnyH_take (i := 2) (oi := _) (v := .agg (ceC y).toArray) rfl (by kernel_rfl) (by kernel_rfl) (by kernel_rfl) (fun _ _ _ h => h) (Or.inl ⟨by rfl, ?_⟩) (by assumption) ?_
        · intro w hSw; exact exec_load_row 33 _ (by rfl) (wr.heap.size + 1) (by rfl) 33 (ceC y).toArray (0, 0) _ hSw.2.2 Tryd.underlying33 rfl (by kernel_rfl)
        try simp only [Act.put, List.getElem_toArray, List.getElem_cons_zero, List.getElem_cons_succ, List.setIfInBounds_toArray, List.set_cons_zero, List.set_cons_succ]
        refine wpAnyH_ready (rs := [3]) (by kernel_rfl) (by simp) ?_
        refine AllReadyH.cons (o := _) rfl (fun K hK => ?_) AllReadyH.nil
        go_simp
        refine (HCP2.out).mono ?_
        rintro e w7 ⟨z, hz, rfl, ⟨hzs, n7, hA⟩, h7⟩
        have HZ := Lib.hid hz
        clear hz
        have z0 := ((h7.cells).1 _ 0 (by omega)).trans t0
        have z1 := ((h7.cells).1 _ 1 (by omega)).trans t1
        have zr := (h7.block _ hs6).trans tr
        refine hK.out _ _ ⟨z0, z1, zr⟩ (fun hHeld2 => ?_)
        clear hK K
        try simp only [Act.put, List.getElem_toArray, List.getElem_cons_zero, List.getElem_cons_succ, List.setIfInBounds_toArray, List.set_cons_zero, List.set_cons_succ]
        clear t0 t1 tr
        refine wpAnyH_take (i := 4) (oi := _) (v := ?_) rfl (by kernel_rfl) (by kernel_rfl) (by kernel_rfl) (fun _ _ _ h => h) (Or.inl ⟨by rfl, ?_⟩) (by assumption) ?_
        rotate_left
        · intro w hSw; (try dsimp only at hSw); skip; go_simp; first | done | with_reducible rfl
        try simp only [Act.put, List.getElem_toArray, List.getElem_cons_zero, List.getElem_cons_succ, List.setIfInBounds_toArray, List.set_cons_zero, List.set_cons_succ]
        obtain ⟨wD, hwD⟩ : ∃ wD, w7.alloc (.cells #[.int .i64 c, .int .i64 d, .int .i64 z.1.kind, .int .i64 z.1.v.kind, .float .f64 z.1.v.x, .string z.1.v.s, .bool z.1.v.b, .int .i64 z.1.v.f, .int .i64 z.1.t.kind, .int .i64 z.1.t.op, .float .f64 z.1.t.x, .string z.1.t.s, .bool z.1.t.b, .int .i64 z.1.t.f, .int .i64 z.1.t.ref.a.1, .int .i64 z.1.t.ref.a.2, .bool z.1.t.ref.cf, .bool z.1.t.ref.rf, .int .i64 z.1.t.to.a.1, .int .i64 z.1.t.to.a.2, .bool z.1.t.to.cf, .bool z.1.t.to.rf, .slice z.2 z.1.t.args.length z.1.t.args.length] 47) = wD := ⟨_, rfl⟩
        have hnews : ∀ (j : Nat) (u : Value), (putC ((c, d), z))[j]? = some u → wD.cell? ((⟨w7.heap.size, 0, none⟩ : Addr).add j) = some u := by
          rw [← hwD]; exact news_at w7 (putC ((c, d), z)) 47 rfl
        have hx7D : Xt w7 wD := by rw [← hwD]; exact (Xt.refl w7).alloc _
        have hxrD : Xt wr wD := HX6d.out.trans (h7.trans hx7D)
        have hOD := HO.out.xt hxrD
        have hle1 := HX.out.size
        have hle2 := hxrD.size
        have hle3 := HX6d.out.size
        have hok : okPut (fun b => wc.heap.size ≤ b ∧ u6.ownBlock ≠ some b) wD ((c, d), z) := by
          refine ⟨hzs, n7, hA.keep (fun b hb _ => ⟨by omega, fun e => ?_⟩) (fun b o _ hlt => (hx7D.cells).1 b o hlt)⟩
          have := (World.ownsRow.lt HO.out.own b e).2
          omega
        have hll : l.length ≤ 1048576 := by
          have e1 := congrArg List.length HPL.out
          rw [List.length_map] at e1
          have e2 := putsK_len M1 M2 (U.take i)
          have e3 : (U.take i).length ≤ U.length := by rw [List.length_take]; omega
          have := HUL.out
          omega
        obtain ⟨v8, w8, hpush, HO8, hg8⟩ := putsOwn_push hOD (by omega) ((c, d), z) ⟨w7.heap.size, 0, none⟩ hnews hok hll 44
        have HO8 := Lib.hid HO8
        have hx8 : Xt wc w8 := (HX.out.trans hxrD).grownB hg8 (fun m hm => (World.ownsRow.lt HO.out.own m (by first | exact hm | exact hm.symm)).1)
        have HX8 := Lib.hid hx8
        have hs7 := h7.size
        have hs8 := hx7D.size
        have hsD : wD.cell? ⟨wr.heap.size, 0, none⟩ = some (.int .i64 c) ∧ wD.cell? ⟨wr.heap.size, 1, none⟩ = some (.int .i64 d) ∧ wD.heap[wr.heap.size + 1]? = some (.cells (ceC y).toArray 33 (0, 0)) := ⟨((hx7D.cells).1 _ 0 (by omega)).trans z0, ((hx7D.cells).1 _ 1 (by omega)).trans z1, (hx7D.block _ (by omega)).trans zr⟩
        have hne0 : u6.ownBlock ≠ some wr.heap.size := fun e => by have := (World.ownsRow.lt HO.out.own _ e).2; omega
        have hne1 : u6.ownBlock ≠ some (wr.heap.size + 1) := fun e => by have := (World.ownsRow.lt HO.out.own _ e).2; omega
        have hsE : w8.cell? ⟨wr.heap.size, 0, none⟩ = some (.int .i64 c) ∧ w8.cell? ⟨wr.heap.size, 1, none⟩ = some (.int .i64 d) ∧ w8.heap[wr.heap.size + 1]? = some (.cells (ceC y).toArray 33 (0, 0)) := ⟨(World.cell?_of_block (w := wD) (a := ⟨wr.heap.size, 0, none⟩) (hg8.block wr.heap.size (by omega) (fun e => hne0 e.symm))).trans hsD.1, (World.cell?_of_block (w := wD) (a := ⟨wr.heap.size, 1, none⟩) (hg8.block wr.heap.size (by omega) (fun e => hne0 e.symm))).trans hsD.2.1, (hg8.block _ (by omega) (fun e => hne1 e.symm)).trans hsD.2.2⟩
        have HSD := Lib.hid hsD
        have HSE := Lib.hid hsE
        clear hnews hx7D hxrD hOD hok hll hg8 hx8 hsD hsE hA h7 z0 z1 zr HX6d hx6d HCP2
        refine wpAnyH_ready (rs := [5]) (by kernel_rfl) (by simp) ?_
        refine AllReadyH.cons (o := _) rfl (fun K hK => ?_) AllReadyH.nil
        go_simp
        refine hK.out _ _ HSD.out (fun hHeld3 => ?_)
        clear hK K
        try simp only [Act.put, List.getElem_toArray, List.getElem_cons_zero, List.getElem_cons_succ, List.setIfInBounds_toArray, List.set_cons_zero, List.set_cons_succ]
        refine wpAnyH_ready (rs := [6]) (by kernel_rfl) (by simp) ?_
        refine AllReadyH.cons (o := _) rfl (fun K hK => ?_) AllReadyH.nil
        rw [if_pos (by rfl)]
        refine oper_append_eq _ _ 44 rfl _ _ rfl rfl hpush ?_
        refine hK.out _ _ HSE.out (fun hHeld4 => ?_)
        clear hK K
        try simp only [Act.put, List.getElem_toArray, List.getElem_cons_zero, List.getElem_cons_succ, List.setIfInBounds_toArray, List.set_cons_zero, List.set_cons_succ]
        refine wpAnyH_take (i := 7) (oi := _) (v := ?_) rfl (by kernel_rfl) (by kernel_rfl) (by kernel_rfl) (fun _ _ _ h => h) (Or.inl ⟨by rfl, ?_⟩) (by assumption) ?_
        rotate_left
        · intro w hSw; (try dsimp only at hSw); skip; go_simp; first | done | with_reducible rfl
        try simp only [Act.put, List.getElem_toArray, List.getElem_cons_zero, List.getElem_cons_succ, List.setIfInBounds_toArray, List.set_cons_zero, List.set_cons_succ]
        refine wpAnyH_done (by kernel_rfl) ?_ _
        go_wp2_with fail
        go_roundw
        case rel => exact ⟨i + 1, l ++ [((c, d), z)], by omega, by go_num, HO8.out, by unfold Hid; rw [HYE2.out, List.map_append, HPL.out, ← HZ.out]; rfl, HX8.out⟩
        case measure => simp [intOf]; omega
      · rw [hsm] at HNO
        have HNO2 := Lib.hid (HNO.out rfl)
        refine wpAnyH_take (i := 8) (oi := _) (v := ?_) rfl (by kernel_rfl) (by kernel_rfl) (by kernel_rfl) (fun _ _ _ h => h) (Or.inl ⟨by rfl, ?_⟩) (by assumption) ?_
        rotate_left
        · intro w hSw; (try dsimp only at hSw); skip; go_simp; first | done | with_reducible rfl
        try simp only [Act.put, List.getElem_toArray, List.getElem_cons_zero, List.getElem_cons_succ, List.setIfInBounds_toArray, List.set_cons_zero, List.set_cons_succ]
        refine wpAnyH_done (by kernel_rfl) ?_ _
        go_wp2_with fail
        go_roundw
        case rel => exact ⟨i + 1, l, by omega, by go_num, HO.out.xt HX6.out, by unfold Hid; rw [HNO2.out]; exact HPL.out, HX.out.trans HX6.out⟩
        case measure => simp [intOf]; omega
    · have he : i = U.length := by omega
      subst he
      obtain ⟨va, vc, rfl, hvc, hvc2⟩ := ownsRow_base (HO.out.own.base (Nat.zero_le _))
      have HCL := Lib.hid (fun W => clipPut_any va l.length vc W hvc hvc2)
      go_wp2_with (refine (HCL.out _).mono ?_; rintro e w' ⟨rfl, rfl⟩)
      go_ret
      have hle := HXW.out.size
      refine ⟨va, vc, l, rfl, ⟨HO.out.own.base hle, fun x hx => (HO.out.args x hx).keep (fun b hb _ => ⟨by omega, hb.2⟩) (fun _ _ _ _ => rfl)⟩, ?_, HXW.out.trans HX.out⟩
      rw [HPL.out, List.take_length]
end Go.Proofs.YtfpdleljhbkehaaDoor
