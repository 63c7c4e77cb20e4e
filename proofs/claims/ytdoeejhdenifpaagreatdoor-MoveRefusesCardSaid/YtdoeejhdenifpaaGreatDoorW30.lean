import Derived.Test.YtdoeejhdenifpaaGreatDoorZ1
import Derived.Test.YtdoeejhdenifpaaGreatDoorA10
namespace Go.Proofs.YtdoeejhdenifpaaGreatDoor
open Go.RowKit Go.Sort Go.Maps Go.Shelf
attribute [local go_sem] Oper.semAt_some
theorem GridIs.sorted_keys {w : World} {gb mb : Nat} {M : GM} {E : List (Ad × Value)} (h : GridIs w gb mb M) (hm : MapIs w mb E) (he : ∀ a, lk a E = (lkM a M).map ceV) {ks : List Ad} (hk : ks.Perm (E.map (·.1))) : sortL adLt ks = M.map (·.1) :=
 sortL_of (by rw [List.pairwise_map]; exact h.sorted) (hk.trans (h.keys hm he))
theorem lkM_at {α : Type} {M : List (Ad × α)} (hs : SortedM M) {i : Nat} {x : Ad × α} (hx : M[i]? = some x) : lkM x.1 M = some x.2 := by
 induction M generalizing i with
 | nil => simp at hx
 | cons y r ih =>
  obtain ⟨h1, h2⟩ := List.pairwise_cons.1 hs
  cases i with
  | zero => simp at hx; subst hx; simp [lkM]
  | succ i =>
   simp only [List.getElem?_cons_succ] at hx
   have hm := List.mem_of_getElem? hx
   have hne : ¬ y.1 = x.1 := fun e => by have := h1 x hm; rw [e, adLt_irrefl] at this; cases this
   simp only [lkM, hne, if_false]
   exact ih h2 hx
def toldS (M : GM) (wb : Ad → Bool) (xs : List TE) : Prop := xs.map (fun x => (x.1, x.2.1)) = (M.filter (fun y => wb y.1)).map (fun y => (y.1, y.2.1))
theorem told_yes {M : GM} {wb : Ad → Bool} {pre : List TE} {i : Nat} {x : Ad × CE} {a' : Option Addr} (h : toldS (M.take i) wb pre) (hx : M[i]? = some x) (hw : wb x.1 = true) : toldS (M.take (i + 1)) wb (pre ++ [(x.1, x.2.1, a')]) := by
 unfold toldS at *
 rw [List.take_add_one, hx, List.map_append, h]; simp [hw]
theorem told_no {M : GM} {wb : Ad → Bool} {pre : List TE} {i : Nat} {x : Ad × CE} (h : toldS (M.take i) wb pre) (hx : M[i]? = some x) (hw : wb x.1 = false) : toldS (M.take (i + 1)) wb pre := by
 unfold toldS at *
 rw [List.take_add_one, hx, h]; simp [hw]
theorem told_len {M : GM} {wb : Ad → Bool} {pre : List TE} (h : toldS M wb pre) : pre.length ≤ M.length := by
 have := congrArg List.length h
 simp only [List.length_map] at this
 rw [this]
 exact List.length_filter_le ..
set_option maxRecDepth 100000 in
set_option maxHeartbeats 4000000 in
theorem some1_in (A : Nat → Bool) (wf : Nat) (wl : Array Value) (ew : ∀ args w, (callFunc wf args).run Tryz.prog w = .ok (.enter wf args) w) (wb : Ad → Bool) (n₀ : Nat) (w0 : World) (hn0 : n₀ = w0.heap.size) (Wk : World → Prop) (hWk : ∀ W W', Wk W → Below n₀ W W' → KeepsT A W W' → Wk W') (hwant : ∀ (a : Ad) (W : World), Wk W → Calls Tryz.prog wf (#[adW a] ++ wl) W fun e W' => e = .returned (.bool (wb a)) ∧ Gr W W')
    (n : Nat) (hn : 8 ≤ n) (l Bg Bw gb mb : Nat) (M : GM) (hG : GridIs w0 gb mb M) (J Jx : List TE → World → Prop) (W : World) (hA0 : A (2 * W.heap.size + 1) = false) (hW : Below n₀ w0 W) (hWkW : Wk W) (hJ : AbidesFrom W.heap.size J)
    (hcg : W.cell? ⟨Bg, 0, none⟩ = some (.pointer (some ⟨gb, 0, none⟩))) (hcw : W.heap[Bw]? = some (.cells #[.func (.func wf) #[] wl] 99 (0, 0)))
    (hY : ∀ pre x W1, J pre W1 → (∃ V, J pre V ∧ toldM M V x W1) → pre.length < M.length → YieldAt Fence.wide (n - 1) Tryz.prog l (teV x) W1 fun e W' => (e = .returned (.bool true) ∧ J (pre ++ [x]) W' ∧ Below n₀ W1 W' ∧ KeepsT A W1 W') ∨ (e = .returned (.bool false) ∧ Jx (pre ++ [x]) W'))
    (h0 : J [] W) :
    CallsIn Fence.wide n Tryz.prog 116 #[.func (.yield l) #[] #[], .pointer (some ⟨Bg, 0, none⟩), .pointer (some ⟨Bw, 0, none⟩)] W fun e W' => (∃ v, e = .returned v) ∧ ((∃ xs, toldS M wb xs ∧ J xs W') ∨ (∃ pre, (∃ i, toldS (M.take i) wb pre) ∧ Jx pre W')) := by
 have hGW := hG.xt (hW.mono (by omega) : Below w0.heap.size w0 W)
 have HGW := Lib.hid hGW
 have HG := Lib.hid hG
 have hcm := hGW.cell
 obtain ⟨E, hm, he⟩ := hGW.map
 have HE := Lib.hid he
 have HSK := Lib.hid (fun ks => hGW.sorted_keys (ks := ks) hm he)
 have HLE := Lib.hid (hGW.len hm he)
 obtain ⟨es, clock, hes, hst, hkv⟩ := hm
 obtain ⟨Wa, hWa⟩ : ∃ Wa, W.alloc (.map es clock) = Wa := ⟨_, rfl⟩
 have hma : MapIs Wa W.heap.size E := by rw [← hWa]; exact ⟨es, clock, (MapKept.heap_alloc W _).1, hst, hkv⟩
 have hxa : Xt W Wa := by rw [← hWa]; exact (Xt.refl W).alloc _
 have hsa : Wa.heap.size = W.heap.size + 1 := by rw [← hWa]; simp
 obtain ⟨Wb, hWb⟩ : ∃ Wb, Wa.alloc (.cells #[.map (some W.heap.size)] 100) = Wb := ⟨_, rfl⟩
 have hxb : Xt Wa Wb := by rw [← hWb]; exact (Xt.refl Wa).alloc _
 have hmb : MapIs Wb W.heap.size E := hma.of_heap (hxb.block _ hma.lt)
 have hcb : Wb.cell? ⟨W.heap.size + 1, 0, none⟩ = some (.map (some W.heap.size)) := by rw [← hWb, ← hsa]; simp
 have hsb : Wb.heap.size = Wa.heap.size + 1 := by rw [← hWb]; simp
 have HC := Lib.hid (fun k => callsIn_wide (n := k).2 (mclone_any mb es clock W hes))
 have HKY := Lib.hid (fun k => keys_in Fence.wide k trivial rfl (some W.heap.size) Wa)
 have HSF := Lib.hid (fun k (hk : 4 ≤ k) => sortedFunc_in 152 #[.pointer (some ⟨W.heap.size + 1, 0, none⟩)] (enters_of Tryz.func152 (by kernel_rfl) rfl) _ _ E.length (by have := HLE.out; have := hG.many; omega) (fun ks hk => by have := hk.length_eq; have := HLE.out; have := hG.many; simp at *; omega) k hk Wb (keys_stops Fence.wide (k - 1 - 1 - 1) trivial rfl (by omega) (W.heap.size + 1) W.heap.size E Wb (by omega) hcb hmb))
 have hf1 : Fence.wide.fn 72 := trivial
 have hf2 : Fence.wide.fn 118 := trivial
 have hf3 : Fence.wide.fn 117 := trivial
 have hf4 : Fence.wide.fn 49 := trivial
 have hf5 : Fence.wide.fn wf := trivial
 have h1 : 1 ≤ n := by omega
 have h4 : 4 ≤ n - 1 := by omega
 clear hG hGW he hst hkv
 refine callsIn_of_wp Tryz.func116 rfl trivial ?_ rfl
 simp only [Tryz.ntmps116, List.size_toArray, List.length_cons, List.length_nil, Nat.reduceAdd, Nat.reduceSub, Array.replicate_succ, Array.replicate_zero, List.push_toArray, List.append_toArray, List.nil_append, List.cons_append]
 gi_wp2_with (first
  | (gi_at_call 72; refine (HC.out _).mono ?_; rintro e w' ⟨rfl, rfl⟩; rw [hWa])
  | (gi_at_call 118; refine (HKY.out _).mono ?_; rintro e w' ⟨rfl, rfl⟩; rw [hWb])
  | (gi_at_call 117; refine (HSF.out _ h4).mono ?_; rintro e Wc ⟨v, ks, rfl, hS, ho, hbc⟩; have hkk := HSK.out ks hS; rw [hkk] at ho; obtain ⟨va, vc, rfl, hvc⟩ := OwnL.slice ho (n := M.length) (by simp); have HO := Lib.hid ho; have HBC := Lib.hid hbc; clear ho hbc hkk hS))
 have hxc : Xt Wb Wc := HBC.out
 have hWc : Xt W Wc := (hxa.trans hxb).trans hxc
 have hmc : MapIs Wc W.heap.size E := hmb.of_heap (hxc.block _ hmb.lt)
 have HI : Hid (ItSt A n₀ w0 wf wl Bw W.heap.size Wb.heap.size E (.slice va M.length vc) (M.map (·.1)) Wc) := ⟨hW.trans (hWc.mono (by have := hW.size; omega)), (hWc.block _ (Array.getElem?_eq_some_iff.1 hcw).1).trans hcw, hmc, HO.out, hA0⟩
 have HWk : Hid (Wk Wc) := hWk _ _ hWkW (hWc.mono (by have := hW.size; omega)) (KeepsT.of_xt hWc)
 have HJ0 : Hid (J [] Wc) := hJ [] W Wc none h0 hWc.grownN (fun r e => by cases e)
 have hsz : W.heap.size ≤ Wc.heap.size := hWc.size
 clear hmc hWc hxc hmb hma hxa hxb hes HC HKY HSF hWa hWb hcb hsa hsb HBC HO h0 hcg hcw hcm HSK hWkW hf1 hf2 hf3
 gi_loopw [18] (fun s18 wr => ∃ (i : Nat) (pre : List TE), i ≤ M.length ∧ s18 = .int .i64 i ∧ Hid (ItSt A n₀ w0 wf wl Bw W.heap.size Wb.heap.size E (.slice va M.length vc) (M.map (·.1)) wr) ∧ Hid (Wk wr) ∧ Hid (J pre wr) ∧ Hid (toldS (M.take i) wb pre) ∧ W.heap.size ≤ wr.heap.size) (fun s18 _ => M.length - (intOf s18).toNat)
 case atStart => exact ⟨0, [], Nat.zero_le _, rfl, HI, HWk, HJ0, by unfold Hid; rfl, hsz⟩
 case round =>
  clear HI HWk HJ0 hsz
  obtain ⟨i, pre, hi, rfl, HI, HWk, HJ, HT, hsz⟩ := hrel
  by_cases hlt : i < M.length
  · obtain ⟨x, hx⟩ : ∃ x, M[i]? = some x := ⟨M[i], by simp [hlt]⟩
    obtain ⟨⟨c, d⟩, xc⟩ := x
    have hki : (i : Int) < (M.length : Int) := by omega
    obtain ⟨b, off, rfl, k0, k1⟩ := keys_at HI.out.keys (i := i) (x := (c, d)) (by simp [hx])
    gi_wp2
    obtain ⟨wq, hwq⟩ : ∃ wq, wr.alloc (.cells #[.int .i64 c, .int .i64 d] 24) = wq := ⟨_, rfl⟩
    have hxq : Xt wr wq.drew := by rw [← hwq]; exact ((Xt.refl wr).alloc _).drew
    have HIq : Hid (ItSt A n₀ w0 wf wl Bw W.heap.size Wb.heap.size E (.slice (some ⟨b, off, none⟩) M.length vc) (M.map (·.1)) wq.drew) := HI.out.xt (by omega) hxq
    have HWkq : Hid (Wk wq.drew) := hWk _ _ HWk.out (hxq.mono (by have := HI.out.below.size; omega)) (KeepsT.of_xt hxq)
    have HJq : Hid (J pre wq.drew) := hJ _ _ _ none HJ.out hxq.grownN (fun r e => by cases e)
    have q0 : wq.drew.cell? ⟨wr.heap.size, 0, none⟩ = some (.int .i64 c) := by rw [← hwq]; exact new2a wr (.int .i64 c) (.int .i64 d) 24 rfl
    have q1 : wq.drew.cell? ⟨wr.heap.size, 1, none⟩ = some (.int .i64 d) := by rw [← hwq]; exact new2b wr (.int .i64 c) (.int .i64 d) 24 rfl
    have cw : wq.drew.cell? ⟨Bw, 0, none⟩ = some (.func (.func wf) #[] wl) := by have := HIq.out.want; simp [World.cell?] at this ⊢; simp [this]
    have HWN := Lib.hid (fun k => callsIn_wide (n := k).2 (hwant (c, d) wq.drew HWkq.out))
    have hsq : wr.heap.size < wq.heap.size := by rw [← hwq]; simp
    have hsd : wq.drew.heap.size = wq.heap.size := rfl
    rw [hwq]
    have HCI : Hid (ceIn w0 xc) := HG.out.args _ (List.mem_of_getElem? hx)
    obtain ⟨dd, hdd⟩ := HCI.out.2
    have HL0 : Hid ((lk (c, d) E) = some (ceV xc)) := Lib.hid (by rw [HE.out, lkM_at HG.out.sorted hx]; rfl)
    have HPL : Hid (pre.length < M.length) := Lib.hid (by
     have := told_len HT.out
     rw [List.length_take] at this; omega)
    clear HI HWk HJ hxq hwq k0 k1
    by_cases hwb : wb (c, d) = true
    · have HWB := Lib.hid hwb
      clear hwb
      refine wpIn_region_any (by kernel_rfl) ?_
      change wpAnyIn _ _ _ _ _ _ _ _ _ (World.drew _)
      refine wpAnyIn_ready (rs := [0, 1]) (by kernel_rfl) (by simp) ?_
      refine AllReadyIn.cons (o := _) rfl (fun K hK => ?_) (AllReadyIn.cons (o := _) rfl (fun K hK => ?_) AllReadyIn.nil)
      · go_simp
        refine hK _ _ ?_
        clear hK K
        try simp only [Act.put, nm]
        refine wpAnyIn_ready (rs := [1]) (by kernel_rfl) (by simp) ?_
        refine AllReadyIn.cons (o := _) rfl (fun K hK => ?_) AllReadyIn.nil
        go_simp
        refine hK _ _ ?_
        clear hK K
        try simp only [Act.put, nm]
        refine wpAnyIn_ready (rs := [2]) (by kernel_rfl) (by simp) ?_
        refine AllReadyIn.cons (o := _) rfl (fun K hK => ?_) AllReadyIn.nil
        go_simp
        refine (HWN.out _).mono ?_
        rintro e w1 ⟨rfl, hg1⟩
        rw [HWB.out]
        have HI1 : Hid (ItSt A n₀ w0 wf wl Bw W.heap.size Wb.heap.size E (.slice (some ⟨b, off, none⟩) M.length vc) (M.map (·.1)) w1) := HIq.out.xt (by omega) hg1.xt
        have HWk1 : Hid (Wk w1) := hWk _ _ HWkq.out (hg1.xt.mono (by have := HIq.out.below.size; omega)) (KeepsT.of_xt hg1.xt)
        have HJ1 : Hid (J pre w1) := hJ _ _ _ none HJq.out hg1.xt.grownN (fun r e => by cases e)
        have r0 := hg1.xt.cellsIn _ _ _ q0
        have r1 := hg1.xt.cellsIn _ _ _ q1
        have hs1 := hg1.xt.sz
        have HGC := Lib.hid (fun k => callsIn_wide (n := k).2 (gcopy_any dd xc.1 xc.2 xc.1.t.args.length w1 HCI.out.1 (hdd.xt (HI1.out.below.mono (by omega) : Below w0.heap.size w0 w1))))
        have hl : (Instr.lookup 100 (.map (some W.heap.size)) (.agg #[.int .i64 c, .int .i64 d]) false).run Tryz.prog w1 = .ok (contV xc.1 xc.2 xc.1.t.args.length xc.1.t.args.length) w1 := by
         have := HI1.out.was.lookup (P := Tryz.prog) (t := 100) (k := 24) (e := 51) adrKey Tryz.underlying100 zeroCon (c, d)
         rw [HL0.out] at this; exact this
        refine hK _ _ ?_
        clear hK K hg1
        try simp only [Act.put, nm]
        refine wpAnyIn_take (i := 3) (oi := _) (v := ?_) rfl rfl (by kernel_rfl) (by kernel_rfl) (by kernel_rfl) (fun _ _ _ h => h) ⟨Or.inl ⟨by rfl, ?_⟩, fun _ => rfl⟩ ?_
        rotate_left
        · intro w; go_simp; first | done | with_reducible rfl
        try simp only [Act.put, nm]
        refine wpAnyIn_take (i := 4) (oi := _) (v := ?_) rfl rfl (by kernel_rfl) (by kernel_rfl) (by kernel_rfl) (fun _ _ _ h => h) ⟨Or.inl ⟨by rfl, ?_⟩, fun _ => rfl⟩ ?_
        rotate_left
        · intro w; go_simp; first | done | with_reducible rfl
        try simp only [Act.put, nm]
        refine wpAnyIn_take (i := 6) (oi := _) (v := ?_) rfl rfl (by kernel_rfl) (by kernel_rfl) (by kernel_rfl) (fun _ _ _ h => h) ⟨Or.inl ⟨by rfl, ?_⟩, fun _ => rfl⟩ ?_
        rotate_left
        · intro w; go_simp; first | done | with_reducible rfl
        try simp only [Act.put, nm]
        refine wpAnyIn_ready (rs := [5, 7]) (by kernel_rfl) (by simp) ?_
        refine AllReadyIn.cons (o := _) rfl (fun K hK => ?_) (AllReadyIn.cons (o := _) rfl (fun K hK => ?_) AllReadyIn.nil)
        · go_simp
          refine hK _ _ ?_
          clear hK K
          try simp only [Act.put, nm]
          refine wpAnyIn_ready (rs := [7]) (by kernel_rfl) (by simp) ?_
          refine AllReadyIn.cons (o := _) rfl (fun K hK => ?_) AllReadyIn.nil
          go_simp
          refine hK _ _ ?_
          clear hK K
          try simp only [Act.put, nm]
          refine wpAnyIn_ready (rs := [8]) (by kernel_rfl) (by simp) ?_
          refine AllReadyIn.cons (o := _) rfl (fun K hK => ?_) AllReadyIn.nil
          go_simp
          refine hK _ _ ?_
          clear hK K
          try simp only [Act.put, nm]
          refine wpAnyIn_ready (rs := [9]) (by kernel_rfl) (by simp) ?_
          refine AllReadyIn.cons (o := _) rfl (fun K hK => ?_) AllReadyIn.nil
          go_simp
          refine (HGC.out _).mono ?_
          rintro e w2 ⟨a', rfl, hA, hx2⟩
          have HI2 : Hid (ItSt A n₀ w0 wf wl Bw W.heap.size Wb.heap.size E (.slice (some ⟨b, off, none⟩) M.length vc) (M.map (·.1)) w2) := HI1.out.xt (by omega) hx2
          have HWk2 : Hid (Wk w2) := hWk _ _ HWk1.out (hx2.mono (by have := HI1.out.below.size; omega)) (KeepsT.of_xt hx2)
          have hJ2 : J pre w2 := hJ _ _ _ none HJ1.out hx2.grownN (fun r e => by cases e)
          have s0 := hx2.cellsIn _ _ _ r0
          have s1 := hx2.cellsIn _ _ _ r1
          have hs2 := hx2.sz
          obtain ⟨fn, tmps, assign, body, hy, hR⟩ := hY pre ((c, d), xc.1, a') w2 hJ2 ⟨w1, HJ1.out, ⟨hx2, HCI.out.1, dd, hA⟩, List.mem_map.2 ⟨_, List.mem_of_getElem? hx, rfl⟩⟩ HPL.out
          (try dsimp only [teV, adW] at hy)
          refine hK _ _ ?_
          clear hK K hJ2 hA hx2
          try simp only [Act.put, nm]
          refine wpAnyIn_ready (rs := [10]) (by kernel_rfl) (by simp) ?_
          refine AllReadyIn.cons (o := _) rfl (fun K hK => ?_) AllReadyIn.nil
          go_simp
          refine hR.mono ?_
          rintro e w3 (⟨rfl, hJ3, hb3, hk3⟩ | ⟨rfl, hJ3⟩)
          · refine hK _ _ ?_
            clear hK K
            try simp only [Act.put, nm]
            refine wpAnyIn_take (i := 11) (oi := _) (v := ?_) rfl rfl (by kernel_rfl) (by kernel_rfl) (by kernel_rfl) (fun _ _ _ h => h) ⟨Or.inl ⟨by rfl, ?_⟩, fun _ => rfl⟩ ?_
            rotate_left
            · intro w; go_simp; first | done | with_reducible rfl
            try simp only [Act.put, nm]
            refine wpAnyIn_take (i := 12) (oi := _) (v := ?_) rfl rfl (by kernel_rfl) (by kernel_rfl) (by kernel_rfl) (fun _ _ _ h => h) ⟨Or.inl ⟨by rfl, ?_⟩, fun _ => rfl⟩ ?_
            rotate_left
            · intro w; go_simp; first | done | with_reducible rfl
            try simp only [Act.put, nm]
            refine wpAnyIn_done (by kernel_rfl) ?_ _
            have hs3 := hk3.size
            have HIE := Lib.hid (HI2.out.step hb3 hk3)
            have HWE : Hid (Wk w3) := hWk _ _ HWk2.out hb3 hk3
            have HJE : Hid (J (pre ++ [((c, d), xc.1, a')]) w3) := hJ3
            have HTE : Hid (toldS (M.take (i + 1)) wb (pre ++ [((c, d), xc.1, a')])) := told_yes HT.out hx HWB.out
            clear hJ3 hb3 hk3
            gi_wp2
            go_roundw
            case rel => exact ⟨i + 1, _, by omega, by go_num, HIE, HWE, HJE, HTE, by omega⟩
            case measure => simp [intOf]; omega
          · refine hK _ _ ?_
            clear hK K
            try simp only [Act.put, nm]
            refine wpAnyIn_take (i := 11) (oi := _) (v := ?_) rfl rfl (by kernel_rfl) (by kernel_rfl) (by kernel_rfl) (fun _ _ _ h => h) ⟨Or.inl ⟨by rfl, ?_⟩, fun _ => rfl⟩ ?_
            rotate_left
            · intro w; go_simp; first | done | with_reducible rfl
            try simp only [Act.put, nm]
            refine wpAnyIn_take (i := 12) (oi := _) (v := ?_) rfl rfl (by kernel_rfl) (by kernel_rfl) (by kernel_rfl) (fun _ _ _ h => h) ⟨Or.inl ⟨by rfl, ?_⟩, fun _ => rfl⟩ ?_
            rotate_left
            · intro w; go_simp; first | done | with_reducible rfl
            try simp only [Act.put, nm]
            refine wpAnyIn_done (by kernel_rfl) ?_ _
            have HJE : Hid (Jx (pre ++ [((c, d), xc.1, a')]) w3) := hJ3
            clear hJ3
            gi_wp2
            refine bodyPost_ret (results_none rfl _ _ _) rfl ?_
            exact ⟨⟨_, rfl⟩, Or.inr ⟨_, ⟨_, told_yes HT.out hx HWB.out⟩, HJE.out⟩⟩
        · go_simp
          refine hK _ _ ?_
          clear hK K
          try simp only [Act.put, nm]
          refine wpAnyIn_ready (rs := [5, 8]) (by kernel_rfl) (by simp) ?_
          refine AllReadyIn.cons (o := _) rfl (fun K hK => ?_) (AllReadyIn.cons (o := _) rfl (fun K hK => ?_) AllReadyIn.nil)
          · go_simp
            refine hK _ _ ?_
            clear hK K
            try simp only [Act.put, nm]
            refine wpAnyIn_ready (rs := [8]) (by kernel_rfl) (by simp) ?_
            refine AllReadyIn.cons (o := _) rfl (fun K hK => ?_) AllReadyIn.nil
            go_simp
            refine hK _ _ ?_
            clear hK K
            try simp only [Act.put, nm]
            refine wpAnyIn_ready (rs := [9]) (by kernel_rfl) (by simp) ?_
            refine AllReadyIn.cons (o := _) rfl (fun K hK => ?_) AllReadyIn.nil
            go_simp
            refine (HGC.out _).mono ?_
            rintro e w2 ⟨a', rfl, hA, hx2⟩
            have HI2 : Hid (ItSt A n₀ w0 wf wl Bw W.heap.size Wb.heap.size E (.slice (some ⟨b, off, none⟩) M.length vc) (M.map (·.1)) w2) := HI1.out.xt (by omega) hx2
            have HWk2 : Hid (Wk w2) := hWk _ _ HWk1.out (hx2.mono (by have := HI1.out.below.size; omega)) (KeepsT.of_xt hx2)
            have hJ2 : J pre w2 := hJ _ _ _ none HJ1.out hx2.grownN (fun r e => by cases e)
            have s0 := hx2.cellsIn _ _ _ r0
            have s1 := hx2.cellsIn _ _ _ r1
            have hs2 := hx2.sz
            obtain ⟨fn, tmps, assign, body, hy, hR⟩ := hY pre ((c, d), xc.1, a') w2 hJ2 ⟨w1, HJ1.out, ⟨hx2, HCI.out.1, dd, hA⟩, List.mem_map.2 ⟨_, List.mem_of_getElem? hx, rfl⟩⟩ HPL.out
            (try dsimp only [teV, adW] at hy)
            refine hK _ _ ?_
            clear hK K hJ2 hA hx2
            try simp only [Act.put, nm]
            refine wpAnyIn_ready (rs := [10]) (by kernel_rfl) (by simp) ?_
            refine AllReadyIn.cons (o := _) rfl (fun K hK => ?_) AllReadyIn.nil
            go_simp
            refine hR.mono ?_
            rintro e w3 (⟨rfl, hJ3, hb3, hk3⟩ | ⟨rfl, hJ3⟩)
            · refine hK _ _ ?_
              clear hK K
              try simp only [Act.put, nm]
              refine wpAnyIn_take (i := 11) (oi := _) (v := ?_) rfl rfl (by kernel_rfl) (by kernel_rfl) (by kernel_rfl) (fun _ _ _ h => h) ⟨Or.inl ⟨by rfl, ?_⟩, fun _ => rfl⟩ ?_
              rotate_left
              · intro w; go_simp; first | done | with_reducible rfl
              try simp only [Act.put, nm]
              refine wpAnyIn_take (i := 12) (oi := _) (v := ?_) rfl rfl (by kernel_rfl) (by kernel_rfl) (by kernel_rfl) (fun _ _ _ h => h) ⟨Or.inl ⟨by rfl, ?_⟩, fun _ => rfl⟩ ?_
              rotate_left
              · intro w; go_simp; first | done | with_reducible rfl
              try simp only [Act.put, nm]
              refine wpAnyIn_done (by kernel_rfl) ?_ _
              have hs3 := hk3.size
              have HIE := Lib.hid (HI2.out.step hb3 hk3)
              have HWE : Hid (Wk w3) := hWk _ _ HWk2.out hb3 hk3
              have HJE : Hid (J (pre ++ [((c, d), xc.1, a')]) w3) := hJ3
              have HTE : Hid (toldS (M.take (i + 1)) wb (pre ++ [((c, d), xc.1, a')])) := told_yes HT.out hx HWB.out
              clear hJ3 hb3 hk3
              gi_wp2
              go_roundw
              case rel => exact ⟨i + 1, _, by omega, by go_num, HIE, HWE, HJE, HTE, by omega⟩
              case measure => simp [intOf]; omega
            · refine hK _ _ ?_
              clear hK K
              try simp only [Act.put, nm]
              refine wpAnyIn_take (i := 11) (oi := _) (v := ?_) rfl rfl (by kernel_rfl) (by kernel_rfl) (by kernel_rfl) (fun _ _ _ h => h) ⟨Or.inl ⟨by rfl, ?_⟩, fun _ => rfl⟩ ?_
              rotate_left
              · intro w; go_simp; first | done | with_reducible rfl
              try simp only [Act.put, nm]
              refine wpAnyIn_take (i := 12) (oi := _) (v := ?_) rfl rfl (by kernel_rfl) (by kernel_rfl) (by kernel_rfl) (fun _ _ _ h => h) ⟨Or.inl ⟨by rfl, ?_⟩, fun _ => rfl⟩ ?_
              rotate_left
              · intro w; go_simp; first | done | with_reducible rfl
              try simp only [Act.put, nm]
              refine wpAnyIn_done (by kernel_rfl) ?_ _
              have HJE : Hid (Jx (pre ++ [((c, d), xc.1, a')]) w3) := hJ3
              clear hJ3
              gi_wp2
              refine bodyPost_ret (results_none rfl _ _ _) rfl ?_
              exact ⟨⟨_, rfl⟩, Or.inr ⟨_, ⟨_, told_yes HT.out hx HWB.out⟩, HJE.out⟩⟩
          · go_simp
            refine hK _ _ ?_
            clear hK K
            try simp only [Act.put, nm]
            refine wpAnyIn_ready (rs := [5, 9]) (by kernel_rfl) (by simp) ?_
            refine AllReadyIn.cons (o := _) rfl (fun K hK => ?_) (AllReadyIn.cons (o := _) rfl (fun K hK => ?_) AllReadyIn.nil)
            · go_simp
              refine hK _ _ ?_
              clear hK K
              try simp only [Act.put, nm]
              refine wpAnyIn_ready (rs := [9]) (by kernel_rfl) (by simp) ?_
              refine AllReadyIn.cons (o := _) rfl (fun K hK => ?_) AllReadyIn.nil
              go_simp
              refine (HGC.out _).mono ?_
              rintro e w2 ⟨a', rfl, hA, hx2⟩
              have HI2 : Hid (ItSt A n₀ w0 wf wl Bw W.heap.size Wb.heap.size E (.slice (some ⟨b, off, none⟩) M.length vc) (M.map (·.1)) w2) := HI1.out.xt (by omega) hx2
              have HWk2 : Hid (Wk w2) := hWk _ _ HWk1.out (hx2.mono (by have := HI1.out.below.size; omega)) (KeepsT.of_xt hx2)
              have hJ2 : J pre w2 := hJ _ _ _ none HJ1.out hx2.grownN (fun r e => by cases e)
              have s0 := hx2.cellsIn _ _ _ r0
              have s1 := hx2.cellsIn _ _ _ r1
              have hs2 := hx2.sz
              obtain ⟨fn, tmps, assign, body, hy, hR⟩ := hY pre ((c, d), xc.1, a') w2 hJ2 ⟨w1, HJ1.out, ⟨hx2, HCI.out.1, dd, hA⟩, List.mem_map.2 ⟨_, List.mem_of_getElem? hx, rfl⟩⟩ HPL.out
              (try dsimp only [teV, adW] at hy)
              refine hK _ _ ?_
              clear hK K hJ2 hA hx2
              try simp only [Act.put, nm]
              refine wpAnyIn_ready (rs := [10]) (by kernel_rfl) (by simp) ?_
              refine AllReadyIn.cons (o := _) rfl (fun K hK => ?_) AllReadyIn.nil
              go_simp
              refine hR.mono ?_
              rintro e w3 (⟨rfl, hJ3, hb3, hk3⟩ | ⟨rfl, hJ3⟩)
              · refine hK _ _ ?_
                clear hK K
                try simp only [Act.put, nm]
                refine wpAnyIn_take (i := 11) (oi := _) (v := ?_) rfl rfl (by kernel_rfl) (by kernel_rfl) (by kernel_rfl) (fun _ _ _ h => h) ⟨Or.inl ⟨by rfl, ?_⟩, fun _ => rfl⟩ ?_
                rotate_left
                · intro w; go_simp; first | done | with_reducible rfl
                try simp only [Act.put, nm]
                refine wpAnyIn_take (i := 12) (oi := _) (v := ?_) rfl rfl (by kernel_rfl) (by kernel_rfl) (by kernel_rfl) (fun _ _ _ h => h) ⟨Or.inl ⟨by rfl, ?_⟩, fun _ => rfl⟩ ?_
                rotate_left
                · intro w; go_simp; first | done | with_reducible rfl
                try simp only [Act.put, nm]
                refine wpAnyIn_done (by kernel_rfl) ?_ _
                have hs3 := hk3.size
                have HIE := Lib.hid (HI2.out.step hb3 hk3)
                have HWE : Hid (Wk w3) := hWk _ _ HWk2.out hb3 hk3
                have HJE : Hid (J (pre ++ [((c, d), xc.1, a')]) w3) := hJ3
                have HTE : Hid (toldS (M.take (i + 1)) wb (pre ++ [((c, d), xc.1, a')])) := told_yes HT.out hx HWB.out
                clear hJ3 hb3 hk3
                gi_wp2
                go_roundw
                case rel => exact ⟨i + 1, _, by omega, by go_num, HIE, HWE, HJE, HTE, by omega⟩
                case measure => simp [intOf]; omega
              · refine hK _ _ ?_
                clear hK K
                try simp only [Act.put, nm]
                refine wpAnyIn_take (i := 11) (oi := _) (v := ?_) rfl rfl (by kernel_rfl) (by kernel_rfl) (by kernel_rfl) (fun _ _ _ h => h) ⟨Or.inl ⟨by rfl, ?_⟩, fun _ => rfl⟩ ?_
                rotate_left
                · intro w; go_simp; first | done | with_reducible rfl
                try simp only [Act.put, nm]
                refine wpAnyIn_take (i := 12) (oi := _) (v := ?_) rfl rfl (by kernel_rfl) (by kernel_rfl) (by kernel_rfl) (fun _ _ _ h => h) ⟨Or.inl ⟨by rfl, ?_⟩, fun _ => rfl⟩ ?_
                rotate_left
                · intro w; go_simp; first | done | with_reducible rfl
                try simp only [Act.put, nm]
                refine wpAnyIn_done (by kernel_rfl) ?_ _
                have HJE : Hid (Jx (pre ++ [((c, d), xc.1, a')]) w3) := hJ3
                clear hJ3
                gi_wp2
                refine bodyPost_ret (results_none rfl _ _ _) rfl ?_
                exact ⟨⟨_, rfl⟩, Or.inr ⟨_, ⟨_, told_yes HT.out hx HWB.out⟩, HJE.out⟩⟩
            · go_simp
              refine (HGC.out _).mono ?_
              rintro e w2 ⟨a', rfl, hA, hx2⟩
              have HI2 : Hid (ItSt A n₀ w0 wf wl Bw W.heap.size Wb.heap.size E (.slice (some ⟨b, off, none⟩) M.length vc) (M.map (·.1)) w2) := HI1.out.xt (by omega) hx2
              have HWk2 : Hid (Wk w2) := hWk _ _ HWk1.out (hx2.mono (by have := HI1.out.below.size; omega)) (KeepsT.of_xt hx2)
              have hJ2 : J pre w2 := hJ _ _ _ none HJ1.out hx2.grownN (fun r e => by cases e)
              have s0 := hx2.cellsIn _ _ _ r0
              have s1 := hx2.cellsIn _ _ _ r1
              have hs2 := hx2.sz
              obtain ⟨fn, tmps, assign, body, hy, hR⟩ := hY pre ((c, d), xc.1, a') w2 hJ2 ⟨w1, HJ1.out, ⟨hx2, HCI.out.1, dd, hA⟩, List.mem_map.2 ⟨_, List.mem_of_getElem? hx, rfl⟩⟩ HPL.out
              (try dsimp only [teV, adW] at hy)
              refine hK _ _ ?_
              clear hK K hJ2 hA hx2
              try simp only [Act.put, nm]
              refine wpAnyIn_ready (rs := [5]) (by kernel_rfl) (by simp) ?_
              refine AllReadyIn.cons (o := _) rfl (fun K hK => ?_) AllReadyIn.nil
              go_simp
              refine hK _ _ ?_
              clear hK K
              try simp only [Act.put, nm]
              refine wpAnyIn_ready (rs := [10]) (by kernel_rfl) (by simp) ?_
              refine AllReadyIn.cons (o := _) rfl (fun K hK => ?_) AllReadyIn.nil
              go_simp
              refine hR.mono ?_
              rintro e w3 (⟨rfl, hJ3, hb3, hk3⟩ | ⟨rfl, hJ3⟩)
              · refine hK _ _ ?_
                clear hK K
                try simp only [Act.put, nm]
                refine wpAnyIn_take (i := 11) (oi := _) (v := ?_) rfl rfl (by kernel_rfl) (by kernel_rfl) (by kernel_rfl) (fun _ _ _ h => h) ⟨Or.inl ⟨by rfl, ?_⟩, fun _ => rfl⟩ ?_
                rotate_left
                · intro w; go_simp; first | done | with_reducible rfl
                try simp only [Act.put, nm]
                refine wpAnyIn_take (i := 12) (oi := _) (v := ?_) rfl rfl (by kernel_rfl) (by kernel_rfl) (by kernel_rfl) (fun _ _ _ h => h) ⟨Or.inl ⟨by rfl, ?_⟩, fun _ => rfl⟩ ?_
                rotate_left
                · intro w; go_simp; first | done | with_reducible rfl
                try simp only [Act.put, nm]
                refine wpAnyIn_done (by kernel_rfl) ?_ _
                have hs3 := hk3.size
                have HIE := Lib.hid (HI2.out.step hb3 hk3)
                have HWE : Hid (Wk w3) := hWk _ _ HWk2.out hb3 hk3
                have HJE : Hid (J (pre ++ [((c, d), xc.1, a')]) w3) := hJ3
                have HTE : Hid (toldS (M.take (i + 1)) wb (pre ++ [((c, d), xc.1, a')])) := told_yes HT.out hx HWB.out
                clear hJ3 hb3 hk3
                gi_wp2
                go_roundw
                case rel => exact ⟨i + 1, _, by omega, by go_num, HIE, HWE, HJE, HTE, by omega⟩
                case measure => simp [intOf]; omega
              · refine hK _ _ ?_
                clear hK K
                try simp only [Act.put, nm]
                refine wpAnyIn_take (i := 11) (oi := _) (v := ?_) rfl rfl (by kernel_rfl) (by kernel_rfl) (by kernel_rfl) (fun _ _ _ h => h) ⟨Or.inl ⟨by rfl, ?_⟩, fun _ => rfl⟩ ?_
                rotate_left
                · intro w; go_simp; first | done | with_reducible rfl
                try simp only [Act.put, nm]
                refine wpAnyIn_take (i := 12) (oi := _) (v := ?_) rfl rfl (by kernel_rfl) (by kernel_rfl) (by kernel_rfl) (fun _ _ _ h => h) ⟨Or.inl ⟨by rfl, ?_⟩, fun _ => rfl⟩ ?_
                rotate_left
                · intro w; go_simp; first | done | with_reducible rfl
                try simp only [Act.put, nm]
                refine wpAnyIn_done (by kernel_rfl) ?_ _
                have HJE : Hid (Jx (pre ++ [((c, d), xc.1, a')]) w3) := hJ3
                clear hJ3
                gi_wp2
                refine bodyPost_ret (results_none rfl _ _ _) rfl ?_
                exact ⟨⟨_, rfl⟩, Or.inr ⟨_, ⟨_, told_yes HT.out hx HWB.out⟩, HJE.out⟩⟩
      · go_simp
        refine hK _ _ ?_
        clear hK K
        try simp only [Act.put, nm]
        refine wpAnyIn_ready (rs := [0]) (by kernel_rfl) (by simp) ?_
        refine AllReadyIn.cons (o := _) rfl (fun K hK => ?_) AllReadyIn.nil
        go_simp
        refine hK _ _ ?_
        clear hK K
        try simp only [Act.put, nm]
        refine wpAnyIn_ready (rs := [2]) (by kernel_rfl) (by simp) ?_
        refine AllReadyIn.cons (o := _) rfl (fun K hK => ?_) AllReadyIn.nil
        go_simp
        refine (HWN.out _).mono ?_
        rintro e w1 ⟨rfl, hg1⟩
        rw [HWB.out]
        have HI1 : Hid (ItSt A n₀ w0 wf wl Bw W.heap.size Wb.heap.size E (.slice (some ⟨b, off, none⟩) M.length vc) (M.map (·.1)) w1) := HIq.out.xt (by omega) hg1.xt
        have HWk1 : Hid (Wk w1) := hWk _ _ HWkq.out (hg1.xt.mono (by have := HIq.out.below.size; omega)) (KeepsT.of_xt hg1.xt)
        have HJ1 : Hid (J pre w1) := hJ _ _ _ none HJq.out hg1.xt.grownN (fun r e => by cases e)
        have r0 := hg1.xt.cellsIn _ _ _ q0
        have r1 := hg1.xt.cellsIn _ _ _ q1
        have hs1 := hg1.xt.sz
        have HGC := Lib.hid (fun k => callsIn_wide (n := k).2 (gcopy_any dd xc.1 xc.2 xc.1.t.args.length w1 HCI.out.1 (hdd.xt (HI1.out.below.mono (by omega) : Below w0.heap.size w0 w1))))
        have hl : (Instr.lookup 100 (.map (some W.heap.size)) (.agg #[.int .i64 c, .int .i64 d]) false).run Tryz.prog w1 = .ok (contV xc.1 xc.2 xc.1.t.args.length xc.1.t.args.length) w1 := by
         have := HI1.out.was.lookup (P := Tryz.prog) (t := 100) (k := 24) (e := 51) adrKey Tryz.underlying100 zeroCon (c, d)
         rw [HL0.out] at this; exact this
        refine hK _ _ ?_
        clear hK K hg1
        try simp only [Act.put, nm]
        refine wpAnyIn_take (i := 3) (oi := _) (v := ?_) rfl rfl (by kernel_rfl) (by kernel_rfl) (by kernel_rfl) (fun _ _ _ h => h) ⟨Or.inl ⟨by rfl, ?_⟩, fun _ => rfl⟩ ?_
        rotate_left
        · intro w; go_simp; first | done | with_reducible rfl
        try simp only [Act.put, nm]
        refine wpAnyIn_take (i := 4) (oi := _) (v := ?_) rfl rfl (by kernel_rfl) (by kernel_rfl) (by kernel_rfl) (fun _ _ _ h => h) ⟨Or.inl ⟨by rfl, ?_⟩, fun _ => rfl⟩ ?_
        rotate_left
        · intro w; go_simp; first | done | with_reducible rfl
        try simp only [Act.put, nm]
        refine wpAnyIn_take (i := 6) (oi := _) (v := ?_) rfl rfl (by kernel_rfl) (by kernel_rfl) (by kernel_rfl) (fun _ _ _ h => h) ⟨Or.inl ⟨by rfl, ?_⟩, fun _ => rfl⟩ ?_
        rotate_left
        · intro w; go_simp; first | done | with_reducible rfl
        try simp only [Act.put, nm]
        refine wpAnyIn_ready (rs := [5, 7]) (by kernel_rfl) (by simp) ?_
        refine AllReadyIn.cons (o := _) rfl (fun K hK => ?_) (AllReadyIn.cons (o := _) rfl (fun K hK => ?_) AllReadyIn.nil)
        · go_simp
          refine hK _ _ ?_
          clear hK K
          try simp only [Act.put, nm]
          refine wpAnyIn_ready (rs := [7]) (by kernel_rfl) (by simp) ?_
          refine AllReadyIn.cons (o := _) rfl (fun K hK => ?_) AllReadyIn.nil
          go_simp
          refine hK _ _ ?_
          clear hK K
          try simp only [Act.put, nm]
          refine wpAnyIn_ready (rs := [8]) (by kernel_rfl) (by simp) ?_
          refine AllReadyIn.cons (o := _) rfl (fun K hK => ?_) AllReadyIn.nil
          go_simp
          refine hK _ _ ?_
          clear hK K
          try simp only [Act.put, nm]
          refine wpAnyIn_ready (rs := [9]) (by kernel_rfl) (by simp) ?_
          refine AllReadyIn.cons (o := _) rfl (fun K hK => ?_) AllReadyIn.nil
          go_simp
          refine (HGC.out _).mono ?_
          rintro e w2 ⟨a', rfl, hA, hx2⟩
          have HI2 : Hid (ItSt A n₀ w0 wf wl Bw W.heap.size Wb.heap.size E (.slice (some ⟨b, off, none⟩) M.length vc) (M.map (·.1)) w2) := HI1.out.xt (by omega) hx2
          have HWk2 : Hid (Wk w2) := hWk _ _ HWk1.out (hx2.mono (by have := HI1.out.below.size; omega)) (KeepsT.of_xt hx2)
          have hJ2 : J pre w2 := hJ _ _ _ none HJ1.out hx2.grownN (fun r e => by cases e)
          have s0 := hx2.cellsIn _ _ _ r0
          have s1 := hx2.cellsIn _ _ _ r1
          have hs2 := hx2.sz
          obtain ⟨fn, tmps, assign, body, hy, hR⟩ := hY pre ((c, d), xc.1, a') w2 hJ2 ⟨w1, HJ1.out, ⟨hx2, HCI.out.1, dd, hA⟩, List.mem_map.2 ⟨_, List.mem_of_getElem? hx, rfl⟩⟩ HPL.out
          (try dsimp only [teV, adW] at hy)
          refine hK _ _ ?_
          clear hK K hJ2 hA hx2
          try simp only [Act.put, nm]
          refine wpAnyIn_ready (rs := [10]) (by kernel_rfl) (by simp) ?_
          refine AllReadyIn.cons (o := _) rfl (fun K hK => ?_) AllReadyIn.nil
          go_simp
          refine hR.mono ?_
          rintro e w3 (⟨rfl, hJ3, hb3, hk3⟩ | ⟨rfl, hJ3⟩)
          · refine hK _ _ ?_
            clear hK K
            try simp only [Act.put, nm]
            refine wpAnyIn_take (i := 11) (oi := _) (v := ?_) rfl rfl (by kernel_rfl) (by kernel_rfl) (by kernel_rfl) (fun _ _ _ h => h) ⟨Or.inl ⟨by rfl, ?_⟩, fun _ => rfl⟩ ?_
            rotate_left
            · intro w; go_simp; first | done | with_reducible rfl
            try simp only [Act.put, nm]
            refine wpAnyIn_take (i := 12) (oi := _) (v := ?_) rfl rfl (by kernel_rfl) (by kernel_rfl) (by kernel_rfl) (fun _ _ _ h => h) ⟨Or.inl ⟨by rfl, ?_⟩, fun _ => rfl⟩ ?_
            rotate_left
            · intro w; go_simp; first | done | with_reducible rfl
            try simp only [Act.put, nm]
            refine wpAnyIn_done (by kernel_rfl) ?_ _
            have hs3 := hk3.size
            have HIE := Lib.hid (HI2.out.step hb3 hk3)
            have HWE : Hid (Wk w3) := hWk _ _ HWk2.out hb3 hk3
            have HJE : Hid (J (pre ++ [((c, d), xc.1, a')]) w3) := hJ3
            have HTE : Hid (toldS (M.take (i + 1)) wb (pre ++ [((c, d), xc.1, a')])) := told_yes HT.out hx HWB.out
            clear hJ3 hb3 hk3
            gi_wp2
            go_roundw
            case rel => exact ⟨i + 1, _, by omega, by go_num, HIE, HWE, HJE, HTE, by omega⟩
            case measure => simp [intOf]; omega
          · refine hK _ _ ?_
            clear hK K
            try simp only [Act.put, nm]
            refine wpAnyIn_take (i := 11) (oi := _) (v := ?_) rfl rfl (by kernel_rfl) (by kernel_rfl) (by kernel_rfl) (fun _ _ _ h => h) ⟨Or.inl ⟨by rfl, ?_⟩, fun _ => rfl⟩ ?_
            rotate_left
            · intro w; go_simp; first | done | with_reducible rfl
            try simp only [Act.put, nm]
            refine wpAnyIn_take (i := 12) (oi := _) (v := ?_) rfl rfl (by kernel_rfl) (by kernel_rfl) (by kernel_rfl) (fun _ _ _ h => h) ⟨Or.inl ⟨by rfl, ?_⟩, fun _ => rfl⟩ ?_
            rotate_left
            · intro w; go_simp; first | done | with_reducible rfl
            try simp only [Act.put, nm]
            refine wpAnyIn_done (by kernel_rfl) ?_ _
            have HJE : Hid (Jx (pre ++ [((c, d), xc.1, a')]) w3) := hJ3
            clear hJ3
            gi_wp2
            refine bodyPost_ret (results_none rfl _ _ _) rfl ?_
            exact ⟨⟨_, rfl⟩, Or.inr ⟨_, ⟨_, told_yes HT.out hx HWB.out⟩, HJE.out⟩⟩
        · go_simp
          refine hK _ _ ?_
          clear hK K
          try simp only [Act.put, nm]
          refine wpAnyIn_ready (rs := [5, 8]) (by kernel_rfl) (by simp) ?_
          refine AllReadyIn.cons (o := _) rfl (fun K hK => ?_) (AllReadyIn.cons (o := _) rfl (fun K hK => ?_) AllReadyIn.nil)
          · go_simp
            refine hK _ _ ?_
            clear hK K
            try simp only [Act.put, nm]
            refine wpAnyIn_ready (rs := [8]) (by kernel_rfl) (by simp) ?_
            refine AllReadyIn.cons (o := _) rfl (fun K hK => ?_) AllReadyIn.nil
            go_simp
            refine hK _ _ ?_
            clear hK K
            try simp only [Act.put, nm]
            refine wpAnyIn_ready (rs := [9]) (by kernel_rfl) (by simp) ?_
            refine AllReadyIn.cons (o := _) rfl (fun K hK => ?_) AllReadyIn.nil
            go_simp
            refine (HGC.out _).mono ?_
            rintro e w2 ⟨a', rfl, hA, hx2⟩
            have HI2 : Hid (ItSt A n₀ w0 wf wl Bw W.heap.size Wb.heap.size E (.slice (some ⟨b, off, none⟩) M.length vc) (M.map (·.1)) w2) := HI1.out.xt (by omega) hx2
            have HWk2 : Hid (Wk w2) := hWk _ _ HWk1.out (hx2.mono (by have := HI1.out.below.size; omega)) (KeepsT.of_xt hx2)
            have hJ2 : J pre w2 := hJ _ _ _ none HJ1.out hx2.grownN (fun r e => by cases e)
            have s0 := hx2.cellsIn _ _ _ r0
            have s1 := hx2.cellsIn _ _ _ r1
            have hs2 := hx2.sz
            obtain ⟨fn, tmps, assign, body, hy, hR⟩ := hY pre ((c, d), xc.1, a') w2 hJ2 ⟨w1, HJ1.out, ⟨hx2, HCI.out.1, dd, hA⟩, List.mem_map.2 ⟨_, List.mem_of_getElem? hx, rfl⟩⟩ HPL.out
            (try dsimp only [teV, adW] at hy)
            refine hK _ _ ?_
            clear hK K hJ2 hA hx2
            try simp only [Act.put, nm]
            refine wpAnyIn_ready (rs := [10]) (by kernel_rfl) (by simp) ?_
            refine AllReadyIn.cons (o := _) rfl (fun K hK => ?_) AllReadyIn.nil
            go_simp
            refine hR.mono ?_
            rintro e w3 (⟨rfl, hJ3, hb3, hk3⟩ | ⟨rfl, hJ3⟩)
            · refine hK _ _ ?_
              clear hK K
              try simp only [Act.put, nm]
              refine wpAnyIn_take (i := 11) (oi := _) (v := ?_) rfl rfl (by kernel_rfl) (by kernel_rfl) (by kernel_rfl) (fun _ _ _ h => h) ⟨Or.inl ⟨by rfl, ?_⟩, fun _ => rfl⟩ ?_
              rotate_left
              · intro w; go_simp; first | done | with_reducible rfl
              try simp only [Act.put, nm]
              refine wpAnyIn_take (i := 12) (oi := _) (v := ?_) rfl rfl (by kernel_rfl) (by kernel_rfl) (by kernel_rfl) (fun _ _ _ h => h) ⟨Or.inl ⟨by rfl, ?_⟩, fun _ => rfl⟩ ?_
              rotate_left
              · intro w; go_simp; first | done | with_reducible rfl
              try simp only [Act.put, nm]
              refine wpAnyIn_done (by kernel_rfl) ?_ _
              have hs3 := hk3.size
              have HIE := Lib.hid (HI2.out.step hb3 hk3)
              have HWE : Hid (Wk w3) := hWk _ _ HWk2.out hb3 hk3
              have HJE : Hid (J (pre ++ [((c, d), xc.1, a')]) w3) := hJ3
              have HTE : Hid (toldS (M.take (i + 1)) wb (pre ++ [((c, d), xc.1, a')])) := told_yes HT.out hx HWB.out
              clear hJ3 hb3 hk3
              gi_wp2
              go_roundw
              case rel => exact ⟨i + 1, _, by omega, by go_num, HIE, HWE, HJE, HTE, by omega⟩
              case measure => simp [intOf]; omega
            · refine hK _ _ ?_
              clear hK K
              try simp only [Act.put, nm]
              refine wpAnyIn_take (i := 11) (oi := _) (v := ?_) rfl rfl (by kernel_rfl) (by kernel_rfl) (by kernel_rfl) (fun _ _ _ h => h) ⟨Or.inl ⟨by rfl, ?_⟩, fun _ => rfl⟩ ?_
              rotate_left
              · intro w; go_simp; first | done | with_reducible rfl
              try simp only [Act.put, nm]
              refine wpAnyIn_take (i := 12) (oi := _) (v := ?_) rfl rfl (by kernel_rfl) (by kernel_rfl) (by kernel_rfl) (fun _ _ _ h => h) ⟨Or.inl ⟨by rfl, ?_⟩, fun _ => rfl⟩ ?_
              rotate_left
              · intro w; go_simp; first | done | with_reducible rfl
              try simp only [Act.put, nm]
              refine wpAnyIn_done (by kernel_rfl) ?_ _
              have HJE : Hid (Jx (pre ++ [((c, d), xc.1, a')]) w3) := hJ3
              clear hJ3
              gi_wp2
              refine bodyPost_ret (results_none rfl _ _ _) rfl ?_
              exact ⟨⟨_, rfl⟩, Or.inr ⟨_, ⟨_, told_yes HT.out hx HWB.out⟩, HJE.out⟩⟩
          · go_simp
            refine hK _ _ ?_
            clear hK K
            try simp only [Act.put, nm]
            refine wpAnyIn_ready (rs := [5, 9]) (by kernel_rfl) (by simp) ?_
            refine AllReadyIn.cons (o := _) rfl (fun K hK => ?_) (AllReadyIn.cons (o := _) rfl (fun K hK => ?_) AllReadyIn.nil)
            · go_simp
              refine hK _ _ ?_
              clear hK K
              try simp only [Act.put, nm]
              refine wpAnyIn_ready (rs := [9]) (by kernel_rfl) (by simp) ?_
              refine AllReadyIn.cons (o := _) rfl (fun K hK => ?_) AllReadyIn.nil
              go_simp
              refine (HGC.out _).mono ?_
              rintro e w2 ⟨a', rfl, hA, hx2⟩
              have HI2 : Hid (ItSt A n₀ w0 wf wl Bw W.heap.size Wb.heap.size E (.slice (some ⟨b, off, none⟩) M.length vc) (M.map (·.1)) w2) := HI1.out.xt (by omega) hx2
              have HWk2 : Hid (Wk w2) := hWk _ _ HWk1.out (hx2.mono (by have := HI1.out.below.size; omega)) (KeepsT.of_xt hx2)
              have hJ2 : J pre w2 := hJ _ _ _ none HJ1.out hx2.grownN (fun r e => by cases e)
              have s0 := hx2.cellsIn _ _ _ r0
              have s1 := hx2.cellsIn _ _ _ r1
              have hs2 := hx2.sz
              obtain ⟨fn, tmps, assign, body, hy, hR⟩ := hY pre ((c, d), xc.1, a') w2 hJ2 ⟨w1, HJ1.out, ⟨hx2, HCI.out.1, dd, hA⟩, List.mem_map.2 ⟨_, List.mem_of_getElem? hx, rfl⟩⟩ HPL.out
              (try dsimp only [teV, adW] at hy)
              refine hK _ _ ?_
              clear hK K hJ2 hA hx2
              try simp only [Act.put, nm]
              refine wpAnyIn_ready (rs := [10]) (by kernel_rfl) (by simp) ?_
              refine AllReadyIn.cons (o := _) rfl (fun K hK => ?_) AllReadyIn.nil
              go_simp
              refine hR.mono ?_
              rintro e w3 (⟨rfl, hJ3, hb3, hk3⟩ | ⟨rfl, hJ3⟩)
              · refine hK _ _ ?_
                clear hK K
                try simp only [Act.put, nm]
                refine wpAnyIn_take (i := 11) (oi := _) (v := ?_) rfl rfl (by kernel_rfl) (by kernel_rfl) (by kernel_rfl) (fun _ _ _ h => h) ⟨Or.inl ⟨by rfl, ?_⟩, fun _ => rfl⟩ ?_
                rotate_left
                · intro w; go_simp; first | done | with_reducible rfl
                try simp only [Act.put, nm]
                refine wpAnyIn_take (i := 12) (oi := _) (v := ?_) rfl rfl (by kernel_rfl) (by kernel_rfl) (by kernel_rfl) (fun _ _ _ h => h) ⟨Or.inl ⟨by rfl, ?_⟩, fun _ => rfl⟩ ?_
                rotate_left
                · intro w; go_simp; first | done | with_reducible rfl
                try simp only [Act.put, nm]
                refine wpAnyIn_done (by kernel_rfl) ?_ _
                have hs3 := hk3.size
                have HIE := Lib.hid (HI2.out.step hb3 hk3)
                have HWE : Hid (Wk w3) := hWk _ _ HWk2.out hb3 hk3
                have HJE : Hid (J (pre ++ [((c, d), xc.1, a')]) w3) := hJ3
                have HTE : Hid (toldS (M.take (i + 1)) wb (pre ++ [((c, d), xc.1, a')])) := told_yes HT.out hx HWB.out
                clear hJ3 hb3 hk3
                gi_wp2
                go_roundw
                case rel => exact ⟨i + 1, _, by omega, by go_num, HIE, HWE, HJE, HTE, by omega⟩
                case measure => simp [intOf]; omega
              · refine hK _ _ ?_
                clear hK K
                try simp only [Act.put, nm]
                refine wpAnyIn_take (i := 11) (oi := _) (v := ?_) rfl rfl (by kernel_rfl) (by kernel_rfl) (by kernel_rfl) (fun _ _ _ h => h) ⟨Or.inl ⟨by rfl, ?_⟩, fun _ => rfl⟩ ?_
                rotate_left
                · intro w; go_simp; first | done | with_reducible rfl
                try simp only [Act.put, nm]
                refine wpAnyIn_take (i := 12) (oi := _) (v := ?_) rfl rfl (by kernel_rfl) (by kernel_rfl) (by kernel_rfl) (fun _ _ _ h => h) ⟨Or.inl ⟨by rfl, ?_⟩, fun _ => rfl⟩ ?_
                rotate_left
                · intro w; go_simp; first | done | with_reducible rfl
                try simp only [Act.put, nm]
                refine wpAnyIn_done (by kernel_rfl) ?_ _
                have HJE : Hid (Jx (pre ++ [((c, d), xc.1, a')]) w3) := hJ3
                clear hJ3
                gi_wp2
                refine bodyPost_ret (results_none rfl _ _ _) rfl ?_
                exact ⟨⟨_, rfl⟩, Or.inr ⟨_, ⟨_, told_yes HT.out hx HWB.out⟩, HJE.out⟩⟩
            · go_simp
              refine (HGC.out _).mono ?_
              rintro e w2 ⟨a', rfl, hA, hx2⟩
              have HI2 : Hid (ItSt A n₀ w0 wf wl Bw W.heap.size Wb.heap.size E (.slice (some ⟨b, off, none⟩) M.length vc) (M.map (·.1)) w2) := HI1.out.xt (by omega) hx2
              have HWk2 : Hid (Wk w2) := hWk _ _ HWk1.out (hx2.mono (by have := HI1.out.below.size; omega)) (KeepsT.of_xt hx2)
              have hJ2 : J pre w2 := hJ _ _ _ none HJ1.out hx2.grownN (fun r e => by cases e)
              have s0 := hx2.cellsIn _ _ _ r0
              have s1 := hx2.cellsIn _ _ _ r1
              have hs2 := hx2.sz
              obtain ⟨fn, tmps, assign, body, hy, hR⟩ := hY pre ((c, d), xc.1, a') w2 hJ2 ⟨w1, HJ1.out, ⟨hx2, HCI.out.1, dd, hA⟩, List.mem_map.2 ⟨_, List.mem_of_getElem? hx, rfl⟩⟩ HPL.out
              (try dsimp only [teV, adW] at hy)
              refine hK _ _ ?_
              clear hK K hJ2 hA hx2
              try simp only [Act.put, nm]
              refine wpAnyIn_ready (rs := [5]) (by kernel_rfl) (by simp) ?_
              refine AllReadyIn.cons (o := _) rfl (fun K hK => ?_) AllReadyIn.nil
              go_simp
              refine hK _ _ ?_
              clear hK K
              try simp only [Act.put, nm]
              refine wpAnyIn_ready (rs := [10]) (by kernel_rfl) (by simp) ?_
              refine AllReadyIn.cons (o := _) rfl (fun K hK => ?_) AllReadyIn.nil
              go_simp
              refine hR.mono ?_
              rintro e w3 (⟨rfl, hJ3, hb3, hk3⟩ | ⟨rfl, hJ3⟩)
              · refine hK _ _ ?_
                clear hK K
                try simp only [Act.put, nm]
                refine wpAnyIn_take (i := 11) (oi := _) (v := ?_) rfl rfl (by kernel_rfl) (by kernel_rfl) (by kernel_rfl) (fun _ _ _ h => h) ⟨Or.inl ⟨by rfl, ?_⟩, fun _ => rfl⟩ ?_
                rotate_left
                · intro w; go_simp; first | done | with_reducible rfl
                try simp only [Act.put, nm]
                refine wpAnyIn_take (i := 12) (oi := _) (v := ?_) rfl rfl (by kernel_rfl) (by kernel_rfl) (by kernel_rfl) (fun _ _ _ h => h) ⟨Or.inl ⟨by rfl, ?_⟩, fun _ => rfl⟩ ?_
                rotate_left
                · intro w; go_simp; first | done | with_reducible rfl
                try simp only [Act.put, nm]
                refine wpAnyIn_done (by kernel_rfl) ?_ _
                have hs3 := hk3.size
                have HIE := Lib.hid (HI2.out.step hb3 hk3)
                have HWE : Hid (Wk w3) := hWk _ _ HWk2.out hb3 hk3
                have HJE : Hid (J (pre ++ [((c, d), xc.1, a')]) w3) := hJ3
                have HTE : Hid (toldS (M.take (i + 1)) wb (pre ++ [((c, d), xc.1, a')])) := told_yes HT.out hx HWB.out
                clear hJ3 hb3 hk3
                gi_wp2
                go_roundw
                case rel => exact ⟨i + 1, _, by omega, by go_num, HIE, HWE, HJE, HTE, by omega⟩
                case measure => simp [intOf]; omega
              · refine hK _ _ ?_
                clear hK K
                try simp only [Act.put, nm]
                refine wpAnyIn_take (i := 11) (oi := _) (v := ?_) rfl rfl (by kernel_rfl) (by kernel_rfl) (by kernel_rfl) (fun _ _ _ h => h) ⟨Or.inl ⟨by rfl, ?_⟩, fun _ => rfl⟩ ?_
                rotate_left
                · intro w; go_simp; first | done | with_reducible rfl
                try simp only [Act.put, nm]
                refine wpAnyIn_take (i := 12) (oi := _) (v := ?_) rfl rfl (by kernel_rfl) (by kernel_rfl) (by kernel_rfl) (fun _ _ _ h => h) ⟨Or.inl ⟨by rfl, ?_⟩, fun _ => rfl⟩ ?_
                rotate_left
                · intro w; go_simp; first | done | with_reducible rfl
                try simp only [Act.put, nm]
                refine wpAnyIn_done (by kernel_rfl) ?_ _
                have HJE : Hid (Jx (pre ++ [((c, d), xc.1, a')]) w3) := hJ3
                clear hJ3
                gi_wp2
                refine bodyPost_ret (results_none rfl _ _ _) rfl ?_
                exact ⟨⟨_, rfl⟩, Or.inr ⟨_, ⟨_, told_yes HT.out hx HWB.out⟩, HJE.out⟩⟩
    · have HWB := Lib.hid (Bool.eq_false_iff.2 hwb)
      clear hwb
      refine wpIn_region_any (by kernel_rfl) ?_
      change wpAnyIn _ _ _ _ _ _ _ _ _ (World.drew _)
      refine wpAnyIn_ready (rs := [0, 1]) (by kernel_rfl) (by simp) ?_
      refine AllReadyIn.cons (o := _) rfl (fun K hK => ?_) (AllReadyIn.cons (o := _) rfl (fun K hK => ?_) AllReadyIn.nil)
      · go_simp
        refine hK _ _ ?_
        clear hK K
        try simp only [Act.put, nm]
        refine wpAnyIn_ready (rs := [1]) (by kernel_rfl) (by simp) ?_
        refine AllReadyIn.cons (o := _) rfl (fun K hK => ?_) AllReadyIn.nil
        go_simp
        refine hK _ _ ?_
        clear hK K
        try simp only [Act.put, nm]
        refine wpAnyIn_ready (rs := [2]) (by kernel_rfl) (by simp) ?_
        refine AllReadyIn.cons (o := _) rfl (fun K hK => ?_) AllReadyIn.nil
        go_simp
        refine (HWN.out _).mono ?_
        rintro e w1 ⟨rfl, hg1⟩
        rw [HWB.out]
        have HI1 : Hid (ItSt A n₀ w0 wf wl Bw W.heap.size Wb.heap.size E (.slice (some ⟨b, off, none⟩) M.length vc) (M.map (·.1)) w1) := HIq.out.xt (by omega) hg1.xt
        have HWk1 : Hid (Wk w1) := hWk _ _ HWkq.out (hg1.xt.mono (by have := HIq.out.below.size; omega)) (KeepsT.of_xt hg1.xt)
        have HJ1 : Hid (J pre w1) := hJ _ _ _ none HJq.out hg1.xt.grownN (fun r e => by cases e)
        have r0 := hg1.xt.cellsIn _ _ _ q0
        have r1 := hg1.xt.cellsIn _ _ _ q1
        have hs1 := hg1.xt.sz
        have HGC := Lib.hid (fun k => callsIn_wide (n := k).2 (gcopy_any dd xc.1 xc.2 xc.1.t.args.length w1 HCI.out.1 (hdd.xt (HI1.out.below.mono (by omega) : Below w0.heap.size w0 w1))))
        have hl : (Instr.lookup 100 (.map (some W.heap.size)) (.agg #[.int .i64 c, .int .i64 d]) false).run Tryz.prog w1 = .ok (contV xc.1 xc.2 xc.1.t.args.length xc.1.t.args.length) w1 := by
         have := HI1.out.was.lookup (P := Tryz.prog) (t := 100) (k := 24) (e := 51) adrKey Tryz.underlying100 zeroCon (c, d)
         rw [HL0.out] at this; exact this
        refine hK _ _ ?_
        clear hK K hg1
        try simp only [Act.put, nm]
        refine wpAnyIn_take (i := 3) (oi := _) (v := ?_) rfl rfl (by kernel_rfl) (by kernel_rfl) (by kernel_rfl) (fun _ _ _ h => h) ⟨Or.inl ⟨by rfl, ?_⟩, fun _ => rfl⟩ ?_
        rotate_left
        · intro w; go_simp; first | done | with_reducible rfl
        try simp only [Act.put, nm]
        refine wpAnyIn_take (i := 4) (oi := _) (v := undef) rfl rfl (by kernel_rfl) (by kernel_rfl) (by kernel_rfl) (fun _ _ _ h => h) ⟨Or.inr ⟨by rfl, rfl⟩, fun _ => rfl⟩ ?_
        try simp only [Act.put, nm]
        refine wpAnyIn_take (i := 5) (oi := _) (v := undef) rfl rfl (by kernel_rfl) (by kernel_rfl) (by kernel_rfl) (fun _ _ _ h => h) ⟨Or.inr ⟨by rfl, rfl⟩, fun _ => rfl⟩ ?_
        try simp only [Act.put, nm]
        refine wpAnyIn_take (i := 6) (oi := _) (v := undef) rfl rfl (by kernel_rfl) (by kernel_rfl) (by kernel_rfl) (fun _ _ _ h => h) ⟨Or.inr ⟨by rfl, rfl⟩, fun _ => rfl⟩ ?_
        try simp only [Act.put, nm]
        refine wpAnyIn_take (i := 7) (oi := _) (v := undef) rfl rfl (by kernel_rfl) (by kernel_rfl) (by kernel_rfl) (fun _ _ _ h => h) ⟨Or.inr ⟨by rfl, rfl⟩, fun _ => rfl⟩ ?_
        try simp only [Act.put, nm]
        refine wpAnyIn_take (i := 8) (oi := _) (v := undef) rfl rfl (by kernel_rfl) (by kernel_rfl) (by kernel_rfl) (fun _ _ _ h => h) ⟨Or.inr ⟨by rfl, rfl⟩, fun _ => rfl⟩ ?_
        try simp only [Act.put, nm]
        refine wpAnyIn_ready (rs := [9]) (by kernel_rfl) (by simp) ?_
        refine AllReadyIn.cons (o := _) rfl (fun K hK => ?_) AllReadyIn.nil
        go_simp
        first | refine hK _ _ ?_ | refine ⟨fun _ _ => trivial, hK _ _ ?_⟩
        clear hK K
        try simp only [Act.put, nm]
        refine wpAnyIn_ready (rs := [10]) (by kernel_rfl) (by simp) ?_
        refine AllReadyIn.cons (o := _) rfl (fun K hK => ?_) AllReadyIn.nil
        go_simp
        first | refine hK _ _ ?_ | refine ⟨fun _ _ => trivial, hK _ _ ?_⟩
        clear hK K
        try simp only [Act.put, nm]
        refine wpAnyIn_take (i := 11) (oi := _) (v := undef) rfl rfl (by kernel_rfl) (by kernel_rfl) (by kernel_rfl) (fun _ _ _ h => h) ⟨Or.inr ⟨by rfl, rfl⟩, fun _ => rfl⟩ ?_
        try simp only [Act.put, nm]
        refine wpAnyIn_take (i := 12) (oi := _) (v := ?_) rfl rfl (by kernel_rfl) (by kernel_rfl) (by kernel_rfl) (fun _ _ _ h => h) ⟨Or.inl ⟨by rfl, ?_⟩, fun _ => rfl⟩ ?_
        rotate_left
        · intro w; go_simp; first | done | with_reducible rfl
        try simp only [Act.put, nm]
        refine wpAnyIn_done (by kernel_rfl) ?_ _
        have HTE : Hid (toldS (M.take (i + 1)) wb pre) := told_no HT.out hx HWB.out
        gi_wp2
        go_roundw
        case rel => exact ⟨i + 1, pre, by omega, by go_num, HI1, HWk1, HJ1, HTE, by omega⟩
        case measure => simp [intOf]; omega
      · go_simp
        refine hK _ _ ?_
        clear hK K
        try simp only [Act.put, nm]
        refine wpAnyIn_ready (rs := [0]) (by kernel_rfl) (by simp) ?_
        refine AllReadyIn.cons (o := _) rfl (fun K hK => ?_) AllReadyIn.nil
        go_simp
        refine hK _ _ ?_
        clear hK K
        try simp only [Act.put, nm]
        refine wpAnyIn_ready (rs := [2]) (by kernel_rfl) (by simp) ?_
        refine AllReadyIn.cons (o := _) rfl (fun K hK => ?_) AllReadyIn.nil
        go_simp
        refine (HWN.out _).mono ?_
        rintro e w1 ⟨rfl, hg1⟩
        rw [HWB.out]
        have HI1 : Hid (ItSt A n₀ w0 wf wl Bw W.heap.size Wb.heap.size E (.slice (some ⟨b, off, none⟩) M.length vc) (M.map (·.1)) w1) := HIq.out.xt (by omega) hg1.xt
        have HWk1 : Hid (Wk w1) := hWk _ _ HWkq.out (hg1.xt.mono (by have := HIq.out.below.size; omega)) (KeepsT.of_xt hg1.xt)
        have HJ1 : Hid (J pre w1) := hJ _ _ _ none HJq.out hg1.xt.grownN (fun r e => by cases e)
        have r0 := hg1.xt.cellsIn _ _ _ q0
        have r1 := hg1.xt.cellsIn _ _ _ q1
        have hs1 := hg1.xt.sz
        have HGC := Lib.hid (fun k => callsIn_wide (n := k).2 (gcopy_any dd xc.1 xc.2 xc.1.t.args.length w1 HCI.out.1 (hdd.xt (HI1.out.below.mono (by omega) : Below w0.heap.size w0 w1))))
        have hl : (Instr.lookup 100 (.map (some W.heap.size)) (.agg #[.int .i64 c, .int .i64 d]) false).run Tryz.prog w1 = .ok (contV xc.1 xc.2 xc.1.t.args.length xc.1.t.args.length) w1 := by
         have := HI1.out.was.lookup (P := Tryz.prog) (t := 100) (k := 24) (e := 51) adrKey Tryz.underlying100 zeroCon (c, d)
         rw [HL0.out] at this; exact this
        refine hK _ _ ?_
        clear hK K hg1
        try simp only [Act.put, nm]
        refine wpAnyIn_take (i := 3) (oi := _) (v := ?_) rfl rfl (by kernel_rfl) (by kernel_rfl) (by kernel_rfl) (fun _ _ _ h => h) ⟨Or.inl ⟨by rfl, ?_⟩, fun _ => rfl⟩ ?_
        rotate_left
        · intro w; go_simp; first | done | with_reducible rfl
        try simp only [Act.put, nm]
        refine wpAnyIn_take (i := 4) (oi := _) (v := undef) rfl rfl (by kernel_rfl) (by kernel_rfl) (by kernel_rfl) (fun _ _ _ h => h) ⟨Or.inr ⟨by rfl, rfl⟩, fun _ => rfl⟩ ?_
        try simp only [Act.put, nm]
        refine wpAnyIn_take (i := 5) (oi := _) (v := undef) rfl rfl (by kernel_rfl) (by kernel_rfl) (by kernel_rfl) (fun _ _ _ h => h) ⟨Or.inr ⟨by rfl, rfl⟩, fun _ => rfl⟩ ?_
        try simp only [Act.put, nm]
        refine wpAnyIn_take (i := 6) (oi := _) (v := undef) rfl rfl (by kernel_rfl) (by kernel_rfl) (by kernel_rfl) (fun _ _ _ h => h) ⟨Or.inr ⟨by rfl, rfl⟩, fun _ => rfl⟩ ?_
        try simp only [Act.put, nm]
        refine wpAnyIn_take (i := 7) (oi := _) (v := undef) rfl rfl (by kernel_rfl) (by kernel_rfl) (by kernel_rfl) (fun _ _ _ h => h) ⟨Or.inr ⟨by rfl, rfl⟩, fun _ => rfl⟩ ?_
        try simp only [Act.put, nm]
        refine wpAnyIn_take (i := 8) (oi := _) (v := undef) rfl rfl (by kernel_rfl) (by kernel_rfl) (by kernel_rfl) (fun _ _ _ h => h) ⟨Or.inr ⟨by rfl, rfl⟩, fun _ => rfl⟩ ?_
        try simp only [Act.put, nm]
        refine wpAnyIn_ready (rs := [9]) (by kernel_rfl) (by simp) ?_
        refine AllReadyIn.cons (o := _) rfl (fun K hK => ?_) AllReadyIn.nil
        go_simp
        first | refine hK _ _ ?_ | refine ⟨fun _ _ => trivial, hK _ _ ?_⟩
        clear hK K
        try simp only [Act.put, nm]
        refine wpAnyIn_ready (rs := [10]) (by kernel_rfl) (by simp) ?_
        refine AllReadyIn.cons (o := _) rfl (fun K hK => ?_) AllReadyIn.nil
        go_simp
        first | refine hK _ _ ?_ | refine ⟨fun _ _ => trivial, hK _ _ ?_⟩
        clear hK K
        try simp only [Act.put, nm]
        refine wpAnyIn_take (i := 11) (oi := _) (v := undef) rfl rfl (by kernel_rfl) (by kernel_rfl) (by kernel_rfl) (fun _ _ _ h => h) ⟨Or.inr ⟨by rfl, rfl⟩, fun _ => rfl⟩ ?_
        try simp only [Act.put, nm]
        refine wpAnyIn_take (i := 12) (oi := _) (v := ?_) rfl rfl (by kernel_rfl) (by kernel_rfl) (by kernel_rfl) (fun _ _ _ h => h) ⟨Or.inl ⟨by rfl, ?_⟩, fun _ => rfl⟩ ?_
        rotate_left
        · intro w; go_simp; first | done | with_reducible rfl
        try simp only [Act.put, nm]
        refine wpAnyIn_done (by kernel_rfl) ?_ _
        have HTE : Hid (toldS (M.take (i + 1)) wb pre) := told_no HT.out hx HWB.out
        gi_wp2
        go_roundw
        case rel => exact ⟨i + 1, pre, by omega, by go_num, HI1, HWk1, HJ1, HTE, by omega⟩
        case measure => simp [intOf]; omega
  · obtain rfl : i = M.length := by omega
    gi_wp2
    go_end0
    exact ⟨⟨_, rfl⟩, Or.inl ⟨pre, by have := HT.out; rwa [List.take_length] at this, HJ.out⟩⟩
end Go.Proofs.YtdoeejhdenifpaaGreatDoor
