/- quadrilleref22.along: a formula's references with lines (made by mkn4.py). -/
import Derived.Test.YtlgkaipgdhcajaaGreatDoorA13
import Derived.Test.YtlgkaipgdhcajaaGreatDoorM6
import Derived.Test.YtlgkaipgdhcajaaGreatDoorA6
namespace Go.Proofs.YtlgkaipgdhcajaaGreatDoor
open Go.RowKit Go.Sort

set_option maxRecDepth 100000 in
set_option maxHeartbeats 2000000 in
theorem lost22_any (w : World) : Calls Tryz.prog 79 #[] w fun e w' => e = .returned (nodeV lostT none 0 0) ∧ Gr w w' := by
  go_enter Tryz.func79, Tryz.ntmps79
  go_wp2
  (try simp only [Exit.inBlock, Exit.then])
  refine bodyPost_ret (results_cell_row rfl _ _ w.heap.size _ _ _ _ rfl (heap_alloc_new _ _) Tryz.underlying29 rfl (by kernel_rfl)) rfl ?_
  exact ⟨rfl, (Gr.refl _).alloc _⟩

theorem validB_in {a b : Int} (h : validB a b = true) : 1 ≤ a ∧ a ≤ 256 ∧ 1 ≤ b ∧ b ≤ 4096 := by
  unfold validB at h
  simp at h
  omega
mutual
/-- All references of a formula are of cells, and areas. -/
def okVs : NodeT → Prop
  | .mk k _ _ _ _ _ r q l => ((k = 5 → validB r.a.1 r.a.2 = true) ∧ (k = 6 → validB r.a.1 r.a.2 = true ∧ validB q.a.1 q.a.2 = true ∧ r.a.1 ≤ q.a.1 ∧ r.a.2 ≤ q.a.2)) ∧ okVL l
def okVL : List NodeT → Prop
  | [] => True
  | t :: l => okVs t ∧ okVL l
end
theorem okVL_at : ∀ {l : List NodeT} {i : Nat} {x : NodeT}, okVL l → l[i]? = some x → okVs x
  | [], _, _, _, h => by simp at h
  | t :: l, 0, _, h, hx => by simp at hx; subst hx; exact h.1
  | t :: l, i + 1, _, h, hx => by simp at hx; exact okVL_at h.2 hx
theorem okVs_args {t : NodeT} (h : okVs t) : okVL t.args := by obtain ⟨k, o, x, s, b, f, r, q, l⟩ := t; exact h.2
mutual
theorem fault_okVs : ∀ (t : NodeT) (ins : Bool), faultT t ins = 0 → okVs t
  | .mk k o x s b f r q l, ins, h => by
    rw [faultT] at h
    by_cases hm : madeB (.mk k o x s b f r q l) = true
    · rw [if_pos hm] at h
      by_cases h5 : k = 5
      · subst h5
        rw [if_pos (by rfl)] at h
        split at h
        · rename_i hv; exact ⟨⟨fun _ => hv, fun e => by omega⟩, faultL_okVs l _ h⟩
        · omega
      · rw [if_neg (by simpa using h5)] at h
        by_cases h6 : k = 6
        · subst h6
          rw [if_pos (by rfl)] at h
          split at h
          · rename_i hv
            simp only [Bool.and_eq_true, decide_eq_true_eq] at hv
            refine ⟨⟨fun e => by omega, fun _ => ⟨hv.1.1.1, hv.1.1.2, hv.1.2, hv.2⟩⟩, ?_⟩
            split at h
            · exact faultL_okVs l _ h
            · omega
          · omega
        · rw [if_neg (by simpa using h6)] at h
          refine ⟨⟨fun e => absurd e h5, fun e => absurd e h6⟩, ?_⟩
          split at h
          · split at h
            · split at h
              · omega
              · split at h
                · omega
                · exact faultL_okVs l _ h
            · omega
          · exact faultL_okVs l _ h
    · rw [if_neg hm] at h; omega
theorem faultL_okVs : ∀ (l : List NodeT) (c : Bool), faultL l c = 0 → okVL l
  | [], _, _ => trivial
  | t :: l, c, h => by
    rw [faultL] at h
    split at h
    · rename_i e; exact ⟨fault_okVs t c e, faultL_okVs l c h⟩
    · rename_i e; exact absurd h e
end
/-- The append leaves the growing node's cells' state. -/
theorem grow_fz {w ws wr w6 : World} {O M n i : Nat} {g : NodeT → NodeT} {t2 x : NodeT} {l : List NodeT} {va a' : Option Addr} {vn vc c' : Nat} (h : GSt w ws O M g n t2 l wr i va vn vc) (hx : l[i]? = some x) (hl : l.length ≤ 1099511627744) (h6 : Xt wr w6) (wA : World)
    (hwA : w6.alloc (.cells #[.int .i64 (g x).kind, .int .i64 (g x).op, .float .f64 (g x).x, .string (g x).s, .bool (g x).b, .int .i64 (g x).f, .int .i64 (g x).ref.a.1, .int .i64 (g x).ref.a.2, .bool (g x).ref.cf, .bool (g x).ref.rf, .int .i64 (g x).to.a.1, .int .i64 (g x).to.a.2, .bool (g x).to.cf, .bool (g x).to.rf, .slice a' (g x).args.length c'] 29) = wA)
    {va' : Option Addr} {vn' vc' : Nat} {w7 : World} (hpush : (Builtin.append_ #[27, 27] 27 #[.slice va vn vc, .slice (some ⟨w6.heap.size, 0, none⟩) 1 1]).run Tryz.prog wA = .ok (.slice va' vn' vc') w7) (o : Nat) : w7.frozen? ⟨O, o, none⟩ = wr.frozen? ⟨O, o, none⟩ := by
  obtain ⟨i0, hi, hz0, hz1, hz2⟩ := info_parts infoNode
  obtain ⟨⟨hO1, hO2, hM, hMr⟩, hbox, hf14, hnone, hob, ⟨R, hown, hRf, hRa⟩, hkeep, hxt⟩ := h
  have hil : i < l.length := (List.getElem?_eq_some_iff.1 hx).1
  have hBr : O < wr.heap.size := by omega
  have hxtA : Xt wr wA := by rw [← hwA]; exact h6.alloc _
  have hownA : wA.ownsRow 0 29 15 (.slice va vn vc) i (R.flatMap rowC) :=
    World.ownsRow.kept hown (row := none) ⟨hxtA.os, hxtA.tape, hxtA.output, hxtA.size, fun k hk _ => hxtA.block k hk⟩ (by
      cases (Value.slice va vn vc).ownBlock with
      | none => exact Or.inl rfl
      | some q => exact Or.inr (by simp))
  have hnews : ∀ (j : Nat) (u : Value), (nodeC (g x) (.slice a' (g x).args.length c'))[j]? = some u → wA.cell? ((⟨w6.heap.size, 0, none⟩ : Addr).add j) = some u := by
    rw [← hwA]
    exact news_at w6 (nodeC (g x) (.slice a' (g x).args.length c')) 29 (b := w6.heap.size) rfl
  have hRl : R.length = i := GSt.lenR hRf (by omega)
  obtain ⟨v', w7', hpush', hown7, hg7, hwh⟩ := run_append_where (P := Tryz.prog) wA 27 27 29 i0 _ 15 128 Tryz.underlying27 hi hz0 hz1 hz2 rfl (by decide) (.slice va vn vc) i (R.flatMap rowC) hownA ⟨w6.heap.size, 0, none⟩ 1 1 (nodeC (g x) (.slice a' (g x).args.length c')) rfl hnews (nodeC_one _ _ rfl) (by unfold maxLen; omega) (by omega)
  have he := hpush'.symm.trans hpush
  simp only [Result.ok.injEq] at he
  obtain ⟨_, rfl⟩ := he
  have hn0 : (Value.slice va vn vc).ownBlock ≠ some O := fun e => by have := hob _ e; omega
  exact (World.frozen?_of_block (w := wr) (a := ⟨O, o, none⟩) ((hg7.block O (by have := hxtA.size; omega) (fun e => hn0 e.symm)).trans (hxtA.block O hBr)))
theorem NodeAt.cellsF {w : World} {b o : Nat} {t : NodeT} {a : Option Addr} {n c : Nat} (h : NodeAt w b o t a n c) : ∀ (i : Nat) (u : Value), (nodeC t (.slice a n c))[i]? = some u → w.cell? ⟨b, o + i, none⟩ = some u := by
  intro i u hu
  have hi : i < 15 := (List.getElem?_eq_some_iff.1 hu).1
  rcases i with _ | _ | _ | _ | _ | _ | _ | _ | _ | _ | _ | _ | _ | _ | _ | i
  · simp only [nodeC, List.getElem?_cons_zero, Option.some.injEq] at hu; subst hu; exact h.c0
  · simp only [nodeC, List.getElem?_cons_zero, List.getElem?_cons_succ, Option.some.injEq] at hu; subst hu; exact h.c1
  · simp only [nodeC, List.getElem?_cons_zero, List.getElem?_cons_succ, Option.some.injEq] at hu; subst hu; exact h.c2
  · simp only [nodeC, List.getElem?_cons_zero, List.getElem?_cons_succ, Option.some.injEq] at hu; subst hu; exact h.c3
  · simp only [nodeC, List.getElem?_cons_zero, List.getElem?_cons_succ, Option.some.injEq] at hu; subst hu; exact h.c4
  · simp only [nodeC, List.getElem?_cons_zero, List.getElem?_cons_succ, Option.some.injEq] at hu; subst hu; exact h.c5
  · simp only [nodeC, List.getElem?_cons_zero, List.getElem?_cons_succ, Option.some.injEq] at hu; subst hu; exact h.c6
  · simp only [nodeC, List.getElem?_cons_zero, List.getElem?_cons_succ, Option.some.injEq] at hu; subst hu; exact h.c7
  · simp only [nodeC, List.getElem?_cons_zero, List.getElem?_cons_succ, Option.some.injEq] at hu; subst hu; exact h.c8
  · simp only [nodeC, List.getElem?_cons_zero, List.getElem?_cons_succ, Option.some.injEq] at hu; subst hu; exact h.c9
  · simp only [nodeC, List.getElem?_cons_zero, List.getElem?_cons_succ, Option.some.injEq] at hu; subst hu; exact h.c10
  · simp only [nodeC, List.getElem?_cons_zero, List.getElem?_cons_succ, Option.some.injEq] at hu; subst hu; exact h.c11
  · simp only [nodeC, List.getElem?_cons_zero, List.getElem?_cons_succ, Option.some.injEq] at hu; subst hu; exact h.c12
  · simp only [nodeC, List.getElem?_cons_zero, List.getElem?_cons_succ, Option.some.injEq] at hu; subst hu; exact h.c13
  · simp only [nodeC, List.getElem?_cons_zero, List.getElem?_cons_succ, Option.some.injEq] at hu; subst hu; exact h.c14
  · omega
theorem nodeAt_set {w : World} {O : Nat} {t t' : NodeT} {a : Option Addr} {n c : Nat} (h : NodeAt w O 0 t a n c) (j : Nat) (v : Value) (hj : j < 15) (hc : nodeC t' (.slice a n c) = (nodeC t (.slice a n c)).set j v) : NodeAt (w.setCell ⟨O, j, none⟩ v) O 0 t' a n c := by
  refine NodeAt.of fun i u hu => ?_
  rw [hc, List.getElem?_set] at hu
  by_cases e : j = i
  · subst e
    rw [if_pos rfl, if_pos (by show j < 15; exact hj)] at hu
    cases hu
    rw [Nat.zero_add]
    obtain ⟨y, hy⟩ : ∃ y, (nodeC t (.slice a n c))[j]? = some y := ⟨_, List.getElem?_eq_getElem (by show j < 15; exact hj)⟩
    have := h.cellsF j y hy
    rw [Nat.zero_add] at this
    exact World.cell?_setCell_same w _ _ this
  · rw [if_neg e] at hu
    have h2 := h.cellsF i u hu
    exact (World.cell?_setCell_other w _ _ _ (by first | (simp; done) | (simp; omega))).trans h2
theorem OwnIn.nilN {S : Nat → Prop} {w : World} : ∀ n, OwnIn S w n (.slice none 0 0) []
  | 0 => ⟨rfl, none, rfl⟩
  | _ + 1 => ⟨none, 0, rfl, Nat.le_refl _, by omega, fun h => absurd h (Nat.lt_irrefl _)⟩
theorem Xt.trans' {w wr W : World} {O : Nat} (h : Xt w wr) (k : Wr (fun b => b = O) wr W) (hO : w.heap.size ≤ O) : Xt w W := k.xt h (fun b hb => by omega)
def AlongIs (cols : Bool) (m : Nat) (a0 cnt : Int) (g n : Nat) : Prop := ∀ (t : NodeT) (a : Option Addr) (cap : Nat) (w : World), smallT t → ArgsIn w n (.slice a t.args.length cap) t.args → okVs t → RowL w g 3 (m + 1) 1 intC (placesL m a0 cnt) →
    Calls Tryz.prog 39 #[nodeV t a t.args.length cap, .bool cols, .slice (some ⟨g, 0, none⟩) (m + 1) (m + 1)] w fun e w' => ∃ a' c', e = .returned (nodeV (turnT (cellF cols ⟨a0, cnt, m⟩) (areaF cols ⟨a0, cnt, m⟩) t) a' (turnT (cellF cols ⟨a0, cnt, m⟩) (areaF cols ⟨a0, cnt, m⟩) t).args.length c') ∧ OwnIn (fun b => w.heap.size ≤ b) w' n (.slice a' (turnT (cellF cols ⟨a0, cnt, m⟩) (areaF cols ⟨a0, cnt, m⟩) t).args.length c') (turnT (cellF cols ⟨a0, cnt, m⟩) (areaF cols ⟨a0, cnt, m⟩) t).args ∧ Xt w w'
set_option maxRecDepth 100000 in
set_option maxHeartbeats 4000000 in
theorem along_any (cols : Bool) (m : Nat) (a0 cnt : Int) (hm : m ≤ 4096) (hmI : (m : Int) = manyI cols) (ha0 : 1 ≤ a0 ∧ a0 ≤ m) (hcnt : -(m : Int) ≤ cnt ∧ cnt ≤ m) (g : Nat) : ∀ n, AlongIs cols m a0 cnt g n := by
  intro n
  induction n using Nat.strongRecOn with
  | ind n ih =>
    intro t a cap w hsm hin hok hrow
    have HOK := Lib.hid hok
    have HROW := Lib.hid hrow
    have HCNT := Lib.hid hcnt
    have HA0 := Lib.hid ha0
    have HMI := Lib.hid hmI
    have hgw : g < w.heap.size := by obtain ⟨cur, hc, _⟩ := hrow; exact (Array.getElem?_eq_some_iff.1 hc).1
    obtain ⟨gT, hgT⟩ : ∃ gT : NodeT → NodeT, turnT (cellF cols ⟨a0, cnt, m⟩) (areaF cols ⟨a0, cnt, m⟩) = gT := ⟨_, rfl⟩
    have HGT := Lib.hid hgT
    have HTE : Hid (∀ t, gT t = turnH (cellF cols ⟨a0, cnt, m⟩) (areaF cols ⟨a0, cnt, m⟩) (withL t (t.args.map gT))) := by unfold Hid; rw [← hgT]; exact turnT_eq _ _
    simp only [AlongIs] at ih
    rw [hgT] at ih ⊢
    have IH := Lib.hid ih
    have HSM := Lib.hid hsm
    have HIN := Lib.hid hin
    obtain ⟨_, _, he, q1, q2⟩ := hin.shape
    cases he
    obtain ⟨w0, hw0, hg0, hs0, hN⟩ := boxN w t a t.args.length cap 29
    have HN := Lib.hid hN
    obtain ⟨c0, c1, c2, c3, c4, c5, c6, c7, c8, c9, c10, c11, c12, c13, c14⟩ := hN
    simp only [Nat.zero_add] at c0 c1 c2 c3 c4 c5 c6 c7 c8 c9 c10 c11 c12 c13 c14
    have HG0 := Lib.hid hg0
    clear hg0 hin ih hsm hok hrow hcnt ha0 hmI hgT
    go_enter Tryz.func39, Tryz.ntmps39
    go_wp2_with fail
    obtain ⟨wZ, hwZ⟩ : ∃ wZ, w0.alloc (.cells #[.int .i64 0, .int .i64 0, .float .f64 0, .string ⟨#[]⟩, .bool false, .int .i64 0, .int .i64 0, .int .i64 0, .bool false, .bool false, .int .i64 0, .int .i64 0, .bool false, .bool false, .slice none 0 0] 29) = wZ := ⟨_, rfl⟩
    rw [hwZ]
    have hsZ : wZ.heap.size = w.heap.size + 1 + 1 := by rw [← hwZ]; simp [hs0]
    obtain ⟨wS, hwS⟩ : ∃ wS, wZ.alloc (.cells #[.int .i64 t.kind, .int .i64 t.op, .float .f64 t.x, .string t.s, .bool t.b, .int .i64 t.f, .int .i64 t.ref.a.1, .int .i64 t.ref.a.2, .bool t.ref.cf, .bool t.ref.rf, .int .i64 t.to.a.1, .int .i64 t.to.a.2, .bool t.to.cf, .bool t.to.rf, .slice none 0 0] 29) = wS := ⟨_, rfl⟩
    rw [hwS]
    have hsS : wS.heap.size = w.heap.size + 1 + 1 + 1 := by rw [← hwS]; simp [hsZ]
    have hxZ : Xt w wZ := by rw [← hwZ]; exact HG0.out.xt.alloc _
    have hxS : Xt w wS := by rw [← hwS]; exact hxZ.alloc _
    have hrZ : wS.heap[w.heap.size + 1]? = some (.cells #[.int .i64 0, .int .i64 0, .float .f64 0, .string ⟨#[]⟩, .bool false, .int .i64 0, .int .i64 0, .int .i64 0, .bool false, .bool false, .int .i64 0, .int .i64 0, .bool false, .bool false, .slice none 0 0] 29 (0, 0)) := by
      rw [← hwS]
      refine (Below.heap_alloc wZ _ _ (by omega)).trans ?_
      rw [← hwZ, ← hs0]; exact (MapKept.heap_alloc w0 _).1
    have hNS : NodeAt wS w.heap.size 0 t a t.args.length cap := by
      rw [← hwS, ← hwZ]; exact (HN.out.xt ((Xt.refl w0).alloc _)).xt ((Xt.refl _).alloc _)
    have hOS : NodeAt wS (w.heap.size + 1 + 1) 0 t none 0 0 := by
      rw [← hwS, ← hsZ]
      refine ⟨?_, ?_, ?_, ?_, ?_, ?_, ?_, ?_, ?_, ?_, ?_, ?_, ?_, ?_, ?_⟩ <;> (rw [World.cell?_alloc_new]; rfl)
    have HFZ : Hid (∀ o, wS.frozen? ⟨w.heap.size + 1 + 1, o, none⟩ = false) := Lib.hid fun o => by rw [← hwS, ← hsZ]; simp
    have hfS : wS.frozen? ⟨w.heap.size + 1 + 1, 14, none⟩ = false := HFZ.out 14
    have HST : Hid (GSt w wS (w.heap.size + 1 + 1) wS.heap.size gT n t t.args wS 0 none 0 0) := grow_start gT n t.args (by omega) (by omega) hOS hfS hxS
    have HNS := Lib.hid hNS
    have HRZ := Lib.hid hrZ
    clear hwS hwZ hw0 hs0 hsZ hxZ hxS hrZ hNS hOS hfS HG0 HN c0 c1 c2 c3 c4 c5 c6 c7 c8 c9 c10 c11 c12 c13 c14
    go_loopw [8] (fun s4 wr => ∃ (i : Nat) (va : Option Addr) (vn vc : Nat), i ≤ t.args.length ∧ s4 = .int .i64 i ∧ Hid (GSt w wS (w.heap.size + 1 + 1) wS.heap.size gT n t t.args wr i va vn vc) ∧ Hid (∀ o, wr.frozen? ⟨w.heap.size + 1 + 1, o, none⟩ = false)) (fun s4 _ => t.args.length - (intOf s4).toNat)
    case atStart => exact ⟨0, none, 0, 0, Nat.zero_le _, rfl, HST, HFZ⟩
    case round =>
      clear HST HFZ
      obtain ⟨i, va, vn, vc, hi, rfl, HS, HFR⟩ := hrel
      have hNr : NodeAt wr w.heap.size 0 t a t.args.length cap := HNS.out.keep (fun o => World.cell?_of_block (w := wS) (a := ⟨w.heap.size, o, none⟩) (HS.out.keep w.heap.size (by omega) (by omega)))
      have hN14 := hNr.c14
      rw [Nat.zero_add] at hN14
      by_cases hlt : i < t.args.length
      · obtain ⟨x, hx⟩ : ∃ x, t.args[i]? = some x := ⟨t.args[i], by simp [hlt]⟩
        obtain ⟨n', b, off, xa, xc, hn', rfl, hNx0, hA⟩ := HIN.out.at hx
        have hbl : b < w.heap.size := World.block_lt_of_cell? w _ hNx0.c0
        have hNx := hNx0.xt HS.out.xt
        have hki : (i : Int) < (t.args.length : Int) := by omega
        have hO14 := HS.out.box.c14
        rw [Nat.zero_add] at hO14
        have hsmx : smallT x := smallL_at (smallT_args HSM.out).2 hx
        have hlen : t.args.length ≤ 1099511627744 := (smallT_args HSM.out).1
        have HC := Lib.hid (IH.out n' (by omega) x xa xc wr.drew hsmx ((hA.xt HS.out.xt).xt (Xt.refl wr).drew) (okVL_at (okVs_args HOK.out) hx) (HROW.out.of_heap (HS.out.xt.block g hgw)))
        clear hNx0 hA hNr
        go_wp2_with fail
        refine wp_region_held_drew (S := fun w' => w'.cell? ⟨w.heap.size, 14, none⟩ = some (.slice (some ⟨b, off, none⟩) t.args.length cap) ∧ NodeAt w' b (off + i * 15) x xa x.args.length xc) (by kernel_rfl) ⟨hN14, hNx.xt (Xt.refl wr).drew⟩ (fun hHeld => ?_)
        refine wpAnyH_take (i := 0) (oi := _) (v := ?_) rfl (by kernel_rfl) (by kernel_rfl) (by kernel_rfl) (fun _ _ _ h => h) (Or.inl ⟨by rfl, ?_⟩) (by assumption) ?_
        rotate_left
        · intro w hSw; go_simp; first | done | with_reducible rfl
        try simp only [Act.put, List.getElem_toArray, List.getElem_cons_zero, List.setIfInBounds_toArray, List.set_cons_zero, List.set_cons_succ]
        refine wpAnyH_take (i := 2) (oi := _) (v := ?_) rfl (by kernel_rfl) (by kernel_rfl) (by kernel_rfl) (fun _ _ _ h => h) (Or.inl ⟨by rfl, ?_⟩) (by assumption) ?_
        rotate_left
        · intro w hSw; go_simp; first | done | with_reducible rfl
        try simp only [Act.put, List.getElem_toArray, List.getElem_cons_zero, List.getElem_cons_succ, List.setIfInBounds_toArray, List.set_cons_zero, List.set_cons_succ]
        refine wpAnyH_take (i := 3) (oi := _) (v := ?_) rfl (by kernel_rfl) (by kernel_rfl) (by kernel_rfl) (fun _ _ _ h => h) (Or.inl ⟨by rfl, ?_⟩) (by assumption) ?_
        rotate_left
        · intro w hSw; (try dsimp only at hSw); have q14 := hSw.1; go_simp; first | done | with_reducible rfl
        try simp only [Act.put, List.getElem_toArray, List.getElem_cons_zero, List.getElem_cons_succ, List.setIfInBounds_toArray, List.set_cons_zero, List.set_cons_succ]
        refine wpAnyH_take (i := 4) (oi := _) (v := ?_) rfl (by kernel_rfl) (by kernel_rfl) (by kernel_rfl) (fun _ _ _ h => h) (Or.inl ⟨by rfl, ?_⟩) (by assumption) ?_
        rotate_left
        · intro w hSw; go_simp; first | done | with_reducible rfl
        try simp only [Act.put, List.getElem_toArray, List.getElem_cons_zero, List.getElem_cons_succ, List.setIfInBounds_toArray, List.set_cons_zero, List.set_cons_succ]
        refine wpAnyH_take (i := 5) (oi := _) (v := ?_) rfl (by kernel_rfl) (by kernel_rfl) (by kernel_rfl) (fun _ _ _ h => h) (Or.inl ⟨by rfl, ?_⟩) (by assumption) ?_
        rotate_left
        · intro w hSw; go_simp; first | done | with_reducible rfl
        try simp only [Act.put, List.getElem_toArray, List.getElem_cons_zero, List.getElem_cons_succ, List.setIfInBounds_toArray, List.set_cons_zero, List.set_cons_succ]
        refine wpAnyH_take (i := 6) (oi := _) (v := ?_) rfl (by kernel_rfl) (by kernel_rfl) (by kernel_rfl) (fun _ _ _ h => h) (Or.inl ⟨by rfl, ?_⟩) (by assumption) ?_
        rotate_left
        · intro w hSw; (try dsimp only at hSw); obtain ⟨e0, e1, e2, e3, e4, e5, e6, e7, e8, e9, e10, e11, e12, e13, e14⟩ := hSw.2; go_simp; first | done | with_reducible rfl
        try simp only [Act.put, List.getElem_toArray, List.getElem_cons_zero, List.getElem_cons_succ, List.setIfInBounds_toArray, List.set_cons_zero, List.set_cons_succ]
        refine wpAnyH_take (i := 7) (oi := _) (v := ?_) rfl (by kernel_rfl) (by kernel_rfl) (by kernel_rfl) (fun _ _ _ h => h) (Or.inl ⟨by rfl, ?_⟩) (by assumption) ?_
        rotate_left
        · intro w hSw; go_simp; first | done | with_reducible rfl
        try simp only [Act.put, List.getElem_toArray, List.getElem_cons_zero, List.getElem_cons_succ, List.setIfInBounds_toArray, List.set_cons_zero, List.set_cons_succ]
        refine wpAnyH_take (i := 8) (oi := _) (v := ?_) rfl (by kernel_rfl) (by kernel_rfl) (by kernel_rfl) (fun _ _ _ h => h) (Or.inl ⟨by rfl, ?_⟩) (by assumption) ?_
        rotate_left
        · intro w hSw; go_simp; first | done | with_reducible rfl
        try simp only [Act.put, List.getElem_toArray, List.getElem_cons_zero, List.getElem_cons_succ, List.setIfInBounds_toArray, List.set_cons_zero, List.set_cons_succ]
        refine wpAnyH_ready (rs := [1, 9]) (by kernel_rfl) (by simp) ?_
        refine AllReadyH.cons (o := _) rfl (fun K hK => ?_) (AllReadyH.cons (o := _) rfl (fun K hK => ?_) AllReadyH.nil)
        · go_simp
          refine hK.out _ _ hHeld (fun hHeld3 => ?_)
          clear hK K
          try simp only [Act.put, List.getElem_toArray, List.getElem_cons_zero, List.getElem_cons_succ, List.setIfInBounds_toArray, List.set_cons_zero, List.set_cons_succ]
          refine wpAnyH_ready (rs := [9]) (by kernel_rfl) (by simp) ?_
          refine AllReadyH.cons (o := _) rfl (fun K hK => ?_) AllReadyH.nil
          go_simp
          refine (HC.out).mono ?_
          rintro e w6 ⟨a', c', rfl, hAS, h6⟩
          obtain ⟨wA, hwA, va', vn', vc', w7, hpush, g6, gA, g7, f7, HS6, HSA, HS7, HS8, HEND⟩ := grow_step (t := t) hn' HS.out hx hlen hN14 hNx hbl hAS h6
          have HFE : Hid (∀ o, (w7.setCell ⟨w.heap.size + 1 + 1, 14, none⟩ (.slice va' vn' vc')).frozen? ⟨w.heap.size + 1 + 1, o, none⟩ = false) := Lib.hid fun o => by rw [World.frozen?_setCell]; exact (grow_fz HS.out hx hlen ((Xt.refl wr).drew.trans h6) wA hwA hpush o).trans (HFR.out o)
          refine hK.out _ _ HS6.out (fun hHeld2 => ?_)
          clear hK K
          try simp only [Act.put, List.getElem_toArray, List.getElem_cons_zero, List.getElem_cons_succ, List.setIfInBounds_toArray, List.set_cons_zero, List.set_cons_succ]
          refine wpAnyH_ready (rs := [10]) (by kernel_rfl) (by simp) ?_
          refine AllReadyH.cons (o := _) rfl (fun K hK => ?_) AllReadyH.nil
          go_simp
          refine hK.out _ _ HSA.out (fun hHeld3 => ?_)
          clear hK K
          try simp only [Act.put, List.getElem_toArray, List.getElem_cons_zero, List.getElem_cons_succ, List.setIfInBounds_toArray, List.set_cons_zero, List.set_cons_succ]
          refine wpAnyH_ready (rs := [11]) (by kernel_rfl) (by simp) ?_
          refine AllReadyH.cons (o := _) rfl (fun K hK => ?_) AllReadyH.nil
          rw [if_pos (by rfl)]
          refine oper_append_eq _ _ 27 rfl _ _ rfl rfl hpush ?_
          refine hK.out _ _ HS7.out (fun hHeld4 => ?_)
          clear hK K
          try simp only [Act.put, List.getElem_toArray, List.getElem_cons_zero, List.getElem_cons_succ, List.setIfInBounds_toArray, List.set_cons_zero, List.set_cons_succ]
          refine wpAnyH_take (i := 12) (oi := _) (v := ?_) rfl (by kernel_rfl) (by kernel_rfl) (by kernel_rfl) (fun _ _ _ h => h) (Or.inl ⟨by rfl, ?_⟩) (by assumption) ?_
          rotate_left
          · intro w hSw; go_simp; first | done | with_reducible rfl
          try simp only [Act.put, List.getElem_toArray, List.getElem_cons_zero, List.getElem_cons_succ, List.setIfInBounds_toArray, List.set_cons_zero, List.set_cons_succ]
          refine wpAnyH_ready (rs := [13]) (by kernel_rfl) (by simp) ?_
          refine AllReadyH.cons (o := _) rfl (fun K hK => ?_) AllReadyH.nil
          go_simp
          refine hK.out _ _ HS8.out (fun hHeld5 => ?_)
          clear hK K
          refine wpAnyH_done (by kernel_rfl) ?_ _
          go_wp2_with fail
          go_roundw
          case rel => exact ⟨i + 1, va', vn', vc', by omega, by go_num, HEND, HFE⟩
          case measure => simp [intOf]; omega
        · go_simp
          refine (HC.out).mono ?_
          rintro e w6 ⟨a', c', rfl, hAS, h6⟩
          obtain ⟨wA, hwA, va', vn', vc', w7, hpush, g6, gA, g7, f7, HS6, HSA, HS7, HS8, HEND⟩ := grow_step (t := t) hn' HS.out hx hlen hN14 hNx hbl hAS h6
          have HFE : Hid (∀ o, (w7.setCell ⟨w.heap.size + 1 + 1, 14, none⟩ (.slice va' vn' vc')).frozen? ⟨w.heap.size + 1 + 1, o, none⟩ = false) := Lib.hid fun o => by rw [World.frozen?_setCell]; exact (grow_fz HS.out hx hlen ((Xt.refl wr).drew.trans h6) wA hwA hpush o).trans (HFR.out o)
          refine hK.out _ _ HS6.out (fun hHeld2 => ?_)
          clear hK K
          try simp only [Act.put, List.getElem_toArray, List.getElem_cons_zero, List.getElem_cons_succ, List.setIfInBounds_toArray, List.set_cons_zero, List.set_cons_succ]
          refine wpAnyH_ready (rs := [1, 10]) (by kernel_rfl) (by simp) ?_
          refine AllReadyH.cons (o := _) rfl (fun K hK => ?_) (AllReadyH.cons (o := _) rfl (fun K hK => ?_) AllReadyH.nil)
          · go_simp
            refine hK.out _ _ HS6.out (fun hHeld3 => ?_)
            clear hK K
            try simp only [Act.put, List.getElem_toArray, List.getElem_cons_zero, List.getElem_cons_succ, List.setIfInBounds_toArray, List.set_cons_zero, List.set_cons_succ]
            refine wpAnyH_ready (rs := [10]) (by kernel_rfl) (by simp) ?_
            refine AllReadyH.cons (o := _) rfl (fun K hK => ?_) AllReadyH.nil
            go_simp
            refine hK.out _ _ HSA.out (fun hHeld3 => ?_)
            clear hK K
            try simp only [Act.put, List.getElem_toArray, List.getElem_cons_zero, List.getElem_cons_succ, List.setIfInBounds_toArray, List.set_cons_zero, List.set_cons_succ]
            refine wpAnyH_ready (rs := [11]) (by kernel_rfl) (by simp) ?_
            refine AllReadyH.cons (o := _) rfl (fun K hK => ?_) AllReadyH.nil
            rw [if_pos (by rfl)]
            refine oper_append_eq _ _ 27 rfl _ _ rfl rfl hpush ?_
            refine hK.out _ _ HS7.out (fun hHeld4 => ?_)
            clear hK K
            try simp only [Act.put, List.getElem_toArray, List.getElem_cons_zero, List.getElem_cons_succ, List.setIfInBounds_toArray, List.set_cons_zero, List.set_cons_succ]
            refine wpAnyH_take (i := 12) (oi := _) (v := ?_) rfl (by kernel_rfl) (by kernel_rfl) (by kernel_rfl) (fun _ _ _ h => h) (Or.inl ⟨by rfl, ?_⟩) (by assumption) ?_
            rotate_left
            · intro w hSw; go_simp; first | done | with_reducible rfl
            try simp only [Act.put, List.getElem_toArray, List.getElem_cons_zero, List.getElem_cons_succ, List.setIfInBounds_toArray, List.set_cons_zero, List.set_cons_succ]
            refine wpAnyH_ready (rs := [13]) (by kernel_rfl) (by simp) ?_
            refine AllReadyH.cons (o := _) rfl (fun K hK => ?_) AllReadyH.nil
            go_simp
            refine hK.out _ _ HS8.out (fun hHeld5 => ?_)
            clear hK K
            refine wpAnyH_done (by kernel_rfl) ?_ _
            go_wp2_with fail
            go_roundw
            case rel => exact ⟨i + 1, va', vn', vc', by omega, by go_num, HEND, HFE⟩
            case measure => simp [intOf]; omega
          · go_simp
            refine hK.out _ _ HSA.out (fun hHeld3 => ?_)
            clear hK K
            try simp only [Act.put, List.getElem_toArray, List.getElem_cons_zero, List.getElem_cons_succ, List.setIfInBounds_toArray, List.set_cons_zero, List.set_cons_succ]
            refine wpAnyH_ready (rs := [1]) (by kernel_rfl) (by simp) ?_
            refine AllReadyH.cons (o := _) rfl (fun K hK => ?_) AllReadyH.nil
            go_simp
            refine hK.out _ _ HSA.out (fun hHeld3 => ?_)
            clear hK K
            try simp only [Act.put, List.getElem_toArray, List.getElem_cons_zero, List.getElem_cons_succ, List.setIfInBounds_toArray, List.set_cons_zero, List.set_cons_succ]
            refine wpAnyH_ready (rs := [11]) (by kernel_rfl) (by simp) ?_
            refine AllReadyH.cons (o := _) rfl (fun K hK => ?_) AllReadyH.nil
            rw [if_pos (by rfl)]
            refine oper_append_eq _ _ 27 rfl _ _ rfl rfl hpush ?_
            refine hK.out _ _ HS7.out (fun hHeld4 => ?_)
            clear hK K
            try simp only [Act.put, List.getElem_toArray, List.getElem_cons_zero, List.getElem_cons_succ, List.setIfInBounds_toArray, List.set_cons_zero, List.set_cons_succ]
            refine wpAnyH_take (i := 12) (oi := _) (v := ?_) rfl (by kernel_rfl) (by kernel_rfl) (by kernel_rfl) (fun _ _ _ h => h) (Or.inl ⟨by rfl, ?_⟩) (by assumption) ?_
            rotate_left
            · intro w hSw; go_simp; first | done | with_reducible rfl
            try simp only [Act.put, List.getElem_toArray, List.getElem_cons_zero, List.getElem_cons_succ, List.setIfInBounds_toArray, List.set_cons_zero, List.set_cons_succ]
            refine wpAnyH_ready (rs := [13]) (by kernel_rfl) (by simp) ?_
            refine AllReadyH.cons (o := _) rfl (fun K hK => ?_) AllReadyH.nil
            go_simp
            refine hK.out _ _ HS8.out (fun hHeld5 => ?_)
            clear hK K
            refine wpAnyH_done (by kernel_rfl) ?_ _
            go_wp2_with fail
            go_roundw
            case rel => exact ⟨i + 1, va', vn', vc', by omega, by go_num, HEND, HFE⟩
            case measure => simp [intOf]; omega
      · obtain rfl : i = t.args.length := by omega
        have hres := (HS.out.keep (w.heap.size + 1) (by omega) (by omega)).trans HRZ.out
        obtain ⟨e1, e2, e3, hend⟩ := grow_end (w' := wr) HS.out (fun _ _ _ => rfl)
        subst e1
        have HEND := Lib.hid (hend vc (Or.inl rfl))
        have HBOX := Lib.hid HS.out.box
        have HXR := Lib.hid HS.out.xt
        have hlo := HS.out.lo
        have HRES := Lib.hid hres
        have HTT := Lib.hid (HTE.out t)
        have HOV := Lib.hid HOK.out
        have HRT := Lib.hid (HROW.out.of_heap (HS.out.xt.block g hgw))
        clear hend hN14 HTE HS HIN IH HSM HROW HOK
        obtain ⟨k, o, x, s, bb, f, ⟨⟨r1, r2⟩, rc, rr⟩, ⟨⟨y1, y2⟩, qc, qr⟩, l⟩ := t
        simp only [NodeT.args] at HEND HBOX hNr HTT hi hlt ⊢
        obtain ⟨b0, b1, b2, b3, b4, b5, b6, b7, b8, b9, b10, b11, b12, b13, b14⟩ := hNr
        simp only [Nat.zero_add, NodeT.kind, NodeT.op, NodeT.x, NodeT.s, NodeT.b, NodeT.f, NodeT.ref, NodeT.to] at b0 b1 b2 b3 b4 b5 b6 b7 b8 b9 b10 b11 b12 b13 b14
        clear b1 b2 b3 b4 b5 b8 b9 b12 b13 HGT HNS
        obtain ⟨O, hO⟩ : ∃ O, w.heap.size + 1 + 1 = O := ⟨_, rfl⟩
        rw [hO] at HBOX HFR hlo ⊢
        obtain ⟨R, hR⟩ : ∃ R, w.heap.size + 1 = R := ⟨_, rfl⟩
        rw [hR] at HRES ⊢
        have hRO : R ≠ O := by omega
        have HSZ : Hid (w.heap.size + 1 = R ∧ w.heap.size + 1 + 1 = O) := ⟨hR, hO⟩
        clear hR hO
        by_cases h5 : k = 5
        · subst h5
          have v1 := validB_in (HOV.out.1.1 rfl)
          simp only at v1
          cases cols
          · have hmv : (m : Int) = 4096 := HMI.out
            obtain ⟨l1, l2⟩ := line_place hm HA0.out HCNT.out (k := r2) ⟨by omega, by omega⟩
            obtain ⟨j, hj, hjm, hc⟩ := rowInt_at HRT.out (k := r2) (by omega) (by omega)
            obtain ⟨v, hv⟩ : ∃ v, placeV m a0 cnt r2 = v := ⟨_, rfl⟩
            rw [hv] at l1 l2 hc
            obtain ⟨z, hz⟩ : ∃ z, lineF ⟨a0, cnt, m⟩ r2 = z := ⟨_, rfl⟩
            rw [hz] at l1 l2
            have oX := HBOX.out.c7
            rw [Nat.zero_add] at oX
            have fz := HFR.out 7
            have HZZ := Lib.hid hz
            have HL12 : Hid (z.2 = decide (0 < v) ∧ (z.2 = true → z.1 = v)) := ⟨l1, l2⟩
            clear hv hz l1 l2 hmv
            subst hj
            obtain ⟨W, hW⟩ : ∃ W, ((wr).setCell ⟨O, 7, none⟩ (.int .i64 (v))) = W := ⟨_, rfl⟩
            have HRNG : Hid (W.rangeAt O 0 (nodeC (.mk 5 o x s bb f ⟨(r1, v), rc, rr⟩ ⟨(y1, y2), qc, qr⟩ l) (.slice va l.length vc))) := by unfold Hid; rw [← hW]; exact NodeAt.cellsF (nodeAt_set (t' := (.mk 5 o x s bb f ⟨(r1, v), rc, rr⟩ ⟨(y1, y2), qc, qr⟩ l)) HBOX.out 7 (.int .i64 (v)) (by omega) rfl)
            have HWW : Hid (Wr (fun b => b = O) wr W) := by unfold Hid; rw [← hW]; exact ((Wr.refl (fun b => b = O) wr).trans (Wr.cell (S := fun b => b = O) _ rfl))
            have HRR : Hid (W.heap[R]? = some (.cells #[.int .i64 0, .int .i64 0, .float .f64 0, .string ⟨#[]⟩, .bool false, .int .i64 0, .int .i64 0, .int .i64 0, .bool false, .bool false, .int .i64 0, .int .i64 0, .bool false, .bool false, .slice none 0 0] 29 (0, 0))) := (HWW.out.block R (Array.getElem?_eq_some_iff.1 HRES.out).1 hRO).trans HRES.out
            have oW : W.cell? ⟨O, 7, none⟩ = some (.int .i64 v) := by rw [← hW]; exact World.cell?_setCell_same wr _ _ oX
            by_cases hv0 : 0 < v
            · go_wp2_with (first
                | (rw [hW])
                | (refine wpList_load_mid (P := Tryz.prog) rfl 29 _ rfl O 0 rfl (nodeC (.mk 5 o x s bb f ⟨(r1, v), rc, rr⟩ ⟨(y1, y2), qc, qr⟩ l) (.slice va l.length vc)) _ HRNG.out Tryz.underlying29 rfl (by kernel_rfl) ?_)
                | (refine wpList_store_row (P := Tryz.prog) rfl 29 _ _ rfl R (nodeC (.mk 5 o x s bb f ⟨(r1, v), rc, rr⟩ ⟨(y1, y2), qc, qr⟩ l) (.slice va l.length vc)).toArray rfl rfl 29 _ HRR.out (by kernel_rfl) (by kernel_rfl) (all_oneCell_toArray (nodeC_one _ _ rfl)) ?_))
              (try simp only [Exit.inBlock, Exit.then])
              refine bodyPost_ret (v := .agg (nodeC (.mk 5 o x s bb f ⟨(r1, v), rc, rr⟩ ⟨(y1, y2), qc, qr⟩ l) (.slice va l.length vc)).toArray) (results_cell_row rfl _ _ R 29 _ (0, 0) _ rfl (setRow_heap _ _ _ _ _ _ HRR.out) Tryz.underlying29 rfl (by kernel_rfl)) rfl ?_
              have hTT : gT (.mk 5 o x s bb f ⟨(r1, (j : Int)), rc, rr⟩ ⟨(y1, y2), qc, qr⟩ l) = (.mk 5 o x s bb f ⟨(r1, v), rc, rr⟩ ⟨(y1, y2), qc, qr⟩ (l.map gT)) := by rw [HTT.out]; have hb : z.2 = true := (by rw [HL12.out.1]; simpa using hv0); simp [turnH, withL, cellF, HZZ.out, hb, HL12.out.2 hb]
              rw [hTT]
              have hsz := HSZ.out
              refine ⟨va, vc, ?_, ?_, (HXR.out.trans' HWW.out (by omega)).grownB (setRow_grown _ _ _) (fun q hq => by cases hq; omega)⟩
              · simp [nodeC, NodeT.args, NodeT.kind, NodeT.op, NodeT.x, NodeT.s, NodeT.b, NodeT.f, NodeT.ref, NodeT.to]
              · have := HEND.out.keep (S' := fun b => w.heap.size ≤ b) (w' := (W).setRow R (nodeC (.mk 5 o x s bb f ⟨(r1, v), rc, rr⟩ ⟨(y1, y2), qc, qr⟩ l) (.slice va l.length vc)).toArray) (fun b hb _ => by omega) (fun b hb hlt => (setRow_other _ _ _ _ (by omega)).trans (HWW.out.block b hlt (by omega)))
                simpa only [NodeT.args, List.length_map] using this
            · go_wp2_with (first
                | (rw [hW])
                | (go_at_call 79; refine (lost22_any _).mono ?_; rintro e w3 ⟨rfl, hg3⟩; have HWW : Hid (Wr (fun b => b = O) wr w3) := Lib.hid (HWW.out.trans (Wr.of_xt hg3.xt)); have HRR := Lib.hid (rowX hg3.xt HRR.out); clear hg3)
                | (refine wpList_store_row (P := Tryz.prog) rfl 29 _ _ rfl R (nodeC lostT (.slice none 0 0)).toArray rfl rfl 29 _ HRR.out (by kernel_rfl) (by kernel_rfl) (all_oneCell_toArray (nodeC_one lostT (.slice none 0 0) rfl)) ?_))
              (try simp only [Exit.inBlock, Exit.then])
              refine bodyPost_ret (v := .agg (nodeC lostT (.slice none 0 0)).toArray) (results_cell_row rfl _ _ R 29 _ (0, 0) _ rfl (setRow_heap _ _ _ _ _ _ HRR.out) Tryz.underlying29 rfl (by kernel_rfl)) rfl ?_
              have hTT : gT (.mk 5 o x s bb f ⟨(r1, (j : Int)), rc, rr⟩ ⟨(y1, y2), qc, qr⟩ l) = lostT := by rw [HTT.out]; have hb : z.2 = false := (by rw [HL12.out.1]; simpa using hv0); simp [turnH, withL, cellF, HZZ.out, hb]
              rw [hTT]
              have hsz := HSZ.out
              exact ⟨none, 0, rfl, OwnIn.nilN n, (HXR.out.trans' HWW.out (by omega)).grownB (setRow_grown _ _ _) (fun q hq => by cases hq; omega)⟩
          · have hmv : (m : Int) = 256 := HMI.out
            obtain ⟨l1, l2⟩ := line_place hm HA0.out HCNT.out (k := r1) ⟨by omega, by omega⟩
            obtain ⟨j, hj, hjm, hc⟩ := rowInt_at HRT.out (k := r1) (by omega) (by omega)
            obtain ⟨v, hv⟩ : ∃ v, placeV m a0 cnt r1 = v := ⟨_, rfl⟩
            rw [hv] at l1 l2 hc
            obtain ⟨z, hz⟩ : ∃ z, lineF ⟨a0, cnt, m⟩ r1 = z := ⟨_, rfl⟩
            rw [hz] at l1 l2
            have oX := HBOX.out.c6
            rw [Nat.zero_add] at oX
            have fz := HFR.out 6
            have HZZ := Lib.hid hz
            have HL12 : Hid (z.2 = decide (0 < v) ∧ (z.2 = true → z.1 = v)) := ⟨l1, l2⟩
            clear hv hz l1 l2 hmv
            subst hj
            obtain ⟨W, hW⟩ : ∃ W, ((wr).setCell ⟨O, 6, none⟩ (.int .i64 (v))) = W := ⟨_, rfl⟩
            have HRNG : Hid (W.rangeAt O 0 (nodeC (.mk 5 o x s bb f ⟨(v, r2), rc, rr⟩ ⟨(y1, y2), qc, qr⟩ l) (.slice va l.length vc))) := by unfold Hid; rw [← hW]; exact NodeAt.cellsF (nodeAt_set (t' := (.mk 5 o x s bb f ⟨(v, r2), rc, rr⟩ ⟨(y1, y2), qc, qr⟩ l)) HBOX.out 6 (.int .i64 (v)) (by omega) rfl)
            have HWW : Hid (Wr (fun b => b = O) wr W) := by unfold Hid; rw [← hW]; exact ((Wr.refl (fun b => b = O) wr).trans (Wr.cell (S := fun b => b = O) _ rfl))
            have HRR : Hid (W.heap[R]? = some (.cells #[.int .i64 0, .int .i64 0, .float .f64 0, .string ⟨#[]⟩, .bool false, .int .i64 0, .int .i64 0, .int .i64 0, .bool false, .bool false, .int .i64 0, .int .i64 0, .bool false, .bool false, .slice none 0 0] 29 (0, 0))) := (HWW.out.block R (Array.getElem?_eq_some_iff.1 HRES.out).1 hRO).trans HRES.out
            have oW : W.cell? ⟨O, 6, none⟩ = some (.int .i64 v) := by rw [← hW]; exact World.cell?_setCell_same wr _ _ oX
            by_cases hv0 : 0 < v
            · go_wp2_with (first
                | (rw [hW])
                | (refine wpList_load_mid (P := Tryz.prog) rfl 29 _ rfl O 0 rfl (nodeC (.mk 5 o x s bb f ⟨(v, r2), rc, rr⟩ ⟨(y1, y2), qc, qr⟩ l) (.slice va l.length vc)) _ HRNG.out Tryz.underlying29 rfl (by kernel_rfl) ?_)
                | (refine wpList_store_row (P := Tryz.prog) rfl 29 _ _ rfl R (nodeC (.mk 5 o x s bb f ⟨(v, r2), rc, rr⟩ ⟨(y1, y2), qc, qr⟩ l) (.slice va l.length vc)).toArray rfl rfl 29 _ HRR.out (by kernel_rfl) (by kernel_rfl) (all_oneCell_toArray (nodeC_one _ _ rfl)) ?_))
              (try simp only [Exit.inBlock, Exit.then])
              refine bodyPost_ret (v := .agg (nodeC (.mk 5 o x s bb f ⟨(v, r2), rc, rr⟩ ⟨(y1, y2), qc, qr⟩ l) (.slice va l.length vc)).toArray) (results_cell_row rfl _ _ R 29 _ (0, 0) _ rfl (setRow_heap _ _ _ _ _ _ HRR.out) Tryz.underlying29 rfl (by kernel_rfl)) rfl ?_
              have hTT : gT (.mk 5 o x s bb f ⟨((j : Int), r2), rc, rr⟩ ⟨(y1, y2), qc, qr⟩ l) = (.mk 5 o x s bb f ⟨(v, r2), rc, rr⟩ ⟨(y1, y2), qc, qr⟩ (l.map gT)) := by rw [HTT.out]; have hb : z.2 = true := (by rw [HL12.out.1]; simpa using hv0); simp [turnH, withL, cellF, HZZ.out, hb, HL12.out.2 hb]
              rw [hTT]
              have hsz := HSZ.out
              refine ⟨va, vc, ?_, ?_, (HXR.out.trans' HWW.out (by omega)).grownB (setRow_grown _ _ _) (fun q hq => by cases hq; omega)⟩
              · simp [nodeC, NodeT.args, NodeT.kind, NodeT.op, NodeT.x, NodeT.s, NodeT.b, NodeT.f, NodeT.ref, NodeT.to]
              · have := HEND.out.keep (S' := fun b => w.heap.size ≤ b) (w' := (W).setRow R (nodeC (.mk 5 o x s bb f ⟨(v, r2), rc, rr⟩ ⟨(y1, y2), qc, qr⟩ l) (.slice va l.length vc)).toArray) (fun b hb _ => by omega) (fun b hb hlt => (setRow_other _ _ _ _ (by omega)).trans (HWW.out.block b hlt (by omega)))
                simpa only [NodeT.args, List.length_map] using this
            · go_wp2_with (first
                | (rw [hW])
                | (go_at_call 79; refine (lost22_any _).mono ?_; rintro e w3 ⟨rfl, hg3⟩; have HWW : Hid (Wr (fun b => b = O) wr w3) := Lib.hid (HWW.out.trans (Wr.of_xt hg3.xt)); have HRR := Lib.hid (rowX hg3.xt HRR.out); clear hg3)
                | (refine wpList_store_row (P := Tryz.prog) rfl 29 _ _ rfl R (nodeC lostT (.slice none 0 0)).toArray rfl rfl 29 _ HRR.out (by kernel_rfl) (by kernel_rfl) (all_oneCell_toArray (nodeC_one lostT (.slice none 0 0) rfl)) ?_))
              (try simp only [Exit.inBlock, Exit.then])
              refine bodyPost_ret (v := .agg (nodeC lostT (.slice none 0 0)).toArray) (results_cell_row rfl _ _ R 29 _ (0, 0) _ rfl (setRow_heap _ _ _ _ _ _ HRR.out) Tryz.underlying29 rfl (by kernel_rfl)) rfl ?_
              have hTT : gT (.mk 5 o x s bb f ⟨((j : Int), r2), rc, rr⟩ ⟨(y1, y2), qc, qr⟩ l) = lostT := by rw [HTT.out]; have hb : z.2 = false := (by rw [HL12.out.1]; simpa using hv0); simp [turnH, withL, cellF, HZZ.out, hb]
              rw [hTT]
              have hsz := HSZ.out
              exact ⟨none, 0, rfl, OwnIn.nilN n, (HXR.out.trans' HWW.out (by omega)).grownB (setRow_grown _ _ _) (fun q hq => by cases hq; omega)⟩
        · by_cases h6 : k = 6
          · subst h6
            have v1 := validB_in (HOV.out.1.2 rfl).1
            have v2 := validB_in (HOV.out.1.2 rfl).2.1
            simp only at v1 v2
            cases cols
            · have hmv : (m : Int) = 4096 := HMI.out
              have HSP := Lib.hid (span22_any m g a0 cnt r2 y2 wr hm HA0.out HCNT.out HRT.out (by omega) (by omega))
              obtain ⟨u, hu⟩ : ∃ u, spanF ⟨a0, cnt, m⟩ r2 y2 = u := ⟨_, rfl⟩
              rw [hu] at HSP
              have HU := Lib.hid hu
              obtain ⟨u1, u2, uo⟩ := u
              have oX := HBOX.out.c7
              have oY := HBOX.out.c11
              rw [Nat.zero_add] at oX oY
              have fz := HFR.out 7
              have fy := HFR.out 11
              clear hu hmv
              obtain ⟨W, hW⟩ : ∃ W, ((((wr).setCell ⟨O, 7, none⟩ (.int .i64 (u1)))).setCell ⟨O, 11, none⟩ (.int .i64 (u2))) = W := ⟨_, rfl⟩
              have HRNG : Hid (W.rangeAt O 0 (nodeC (.mk 6 o x s bb f ⟨(r1, u1), rc, rr⟩ ⟨(y1, u2), qc, qr⟩ l) (.slice va l.length vc))) := by unfold Hid; rw [← hW]; exact NodeAt.cellsF (nodeAt_set (t' := (.mk 6 o x s bb f ⟨(r1, u1), rc, rr⟩ ⟨(y1, u2), qc, qr⟩ l)) (nodeAt_set (t' := (.mk 6 o x s bb f ⟨(r1, u1), rc, rr⟩ ⟨(y1, y2), qc, qr⟩ l)) HBOX.out 7 (.int .i64 (u1)) (by omega) rfl) 11 (.int .i64 (u2)) (by omega) rfl)
              have HWW : Hid (Wr (fun b => b = O) wr W) := by unfold Hid; rw [← hW]; exact (((Wr.refl (fun b => b = O) wr).trans (Wr.cell (S := fun b => b = O) _ rfl)).trans (Wr.cell (S := fun b => b = O) _ rfl))
              have HRR : Hid (W.heap[R]? = some (.cells #[.int .i64 0, .int .i64 0, .float .f64 0, .string ⟨#[]⟩, .bool false, .int .i64 0, .int .i64 0, .int .i64 0, .bool false, .bool false, .int .i64 0, .int .i64 0, .bool false, .bool false, .slice none 0 0] 29 (0, 0))) := (HWW.out.block R (Array.getElem?_eq_some_iff.1 HRES.out).1 hRO).trans HRES.out
              cases uo
              · go_wp2_with (first
                  | (go_at_call 78; refine (HSP.out).mono ?_; rintro e w3 ⟨rfl, rfl⟩)
                  | (rw [hW])
                  | (go_at_call 79; refine (lost22_any _).mono ?_; rintro e w3 ⟨rfl, hg3⟩; have HWW : Hid (Wr (fun b => b = O) wr w3) := Lib.hid (HWW.out.trans (Wr.of_xt hg3.xt)); have HRR := Lib.hid (rowX hg3.xt HRR.out); clear hg3)
                  | (refine wpList_store_row (P := Tryz.prog) rfl 29 _ _ rfl R (nodeC lostT (.slice none 0 0)).toArray rfl rfl 29 _ HRR.out (by kernel_rfl) (by kernel_rfl) (all_oneCell_toArray (nodeC_one lostT (.slice none 0 0) rfl)) ?_))
                (try simp only [Exit.inBlock, Exit.then])
                refine bodyPost_ret (v := .agg (nodeC lostT (.slice none 0 0)).toArray) (results_cell_row rfl _ _ R 29 _ (0, 0) _ rfl (setRow_heap _ _ _ _ _ _ HRR.out) Tryz.underlying29 rfl (by kernel_rfl)) rfl ?_
                have hTT : gT (.mk 6 o x s bb f ⟨(r1, r2), rc, rr⟩ ⟨(y1, y2), qc, qr⟩ l) = lostT := by rw [HTT.out]; simp [turnH, withL, areaF, arOf, HU.out]
                rw [hTT]
                have hsz := HSZ.out
                exact ⟨none, 0, rfl, OwnIn.nilN n, (HXR.out.trans' HWW.out (by omega)).grownB (setRow_grown _ _ _) (fun q hq => by cases hq; omega)⟩
              · go_wp2_with (first
                  | (go_at_call 78; refine (HSP.out).mono ?_; rintro e w3 ⟨rfl, rfl⟩)
                  | (rw [hW])
                  | (refine wpList_load_mid (P := Tryz.prog) rfl 29 _ rfl O 0 rfl (nodeC (.mk 6 o x s bb f ⟨(r1, u1), rc, rr⟩ ⟨(y1, u2), qc, qr⟩ l) (.slice va l.length vc)) _ HRNG.out Tryz.underlying29 rfl (by kernel_rfl) ?_)
                  | (refine wpList_store_row (P := Tryz.prog) rfl 29 _ _ rfl R (nodeC (.mk 6 o x s bb f ⟨(r1, u1), rc, rr⟩ ⟨(y1, u2), qc, qr⟩ l) (.slice va l.length vc)).toArray rfl rfl 29 _ HRR.out (by kernel_rfl) (by kernel_rfl) (all_oneCell_toArray (nodeC_one _ _ rfl)) ?_))
                (try simp only [Exit.inBlock, Exit.then])
                refine bodyPost_ret (v := .agg (nodeC (.mk 6 o x s bb f ⟨(r1, u1), rc, rr⟩ ⟨(y1, u2), qc, qr⟩ l) (.slice va l.length vc)).toArray) (results_cell_row rfl _ _ R 29 _ (0, 0) _ rfl (setRow_heap _ _ _ _ _ _ HRR.out) Tryz.underlying29 rfl (by kernel_rfl)) rfl ?_
                have hTT : gT (.mk 6 o x s bb f ⟨(r1, r2), rc, rr⟩ ⟨(y1, y2), qc, qr⟩ l) = (.mk 6 o x s bb f ⟨(r1, u1), rc, rr⟩ ⟨(y1, u2), qc, qr⟩ (l.map gT)) := by rw [HTT.out]; simp [turnH, withL, areaF, arOf, HU.out]
                rw [hTT]
                have hsz := HSZ.out
                refine ⟨va, vc, ?_, ?_, (HXR.out.trans' HWW.out (by omega)).grownB (setRow_grown _ _ _) (fun q hq => by cases hq; omega)⟩
                · simp [nodeC, NodeT.args, NodeT.kind, NodeT.op, NodeT.x, NodeT.s, NodeT.b, NodeT.f, NodeT.ref, NodeT.to]
                · have := HEND.out.keep (S' := fun b => w.heap.size ≤ b) (w' := (W).setRow R (nodeC (.mk 6 o x s bb f ⟨(r1, u1), rc, rr⟩ ⟨(y1, u2), qc, qr⟩ l) (.slice va l.length vc)).toArray) (fun b hb _ => by omega) (fun b hb hlt => (setRow_other _ _ _ _ (by omega)).trans (HWW.out.block b hlt (by omega)))
                  simpa only [NodeT.args, List.length_map] using this
            · have hmv : (m : Int) = 256 := HMI.out
              have HSP := Lib.hid (span22_any m g a0 cnt r1 y1 wr hm HA0.out HCNT.out HRT.out (by omega) (by omega))
              obtain ⟨u, hu⟩ : ∃ u, spanF ⟨a0, cnt, m⟩ r1 y1 = u := ⟨_, rfl⟩
              rw [hu] at HSP
              have HU := Lib.hid hu
              obtain ⟨u1, u2, uo⟩ := u
              have oX := HBOX.out.c6
              have oY := HBOX.out.c10
              rw [Nat.zero_add] at oX oY
              have fz := HFR.out 6
              have fy := HFR.out 10
              clear hu hmv
              obtain ⟨W, hW⟩ : ∃ W, ((((wr).setCell ⟨O, 6, none⟩ (.int .i64 (u1)))).setCell ⟨O, 10, none⟩ (.int .i64 (u2))) = W := ⟨_, rfl⟩
              have HRNG : Hid (W.rangeAt O 0 (nodeC (.mk 6 o x s bb f ⟨(u1, r2), rc, rr⟩ ⟨(u2, y2), qc, qr⟩ l) (.slice va l.length vc))) := by unfold Hid; rw [← hW]; exact NodeAt.cellsF (nodeAt_set (t' := (.mk 6 o x s bb f ⟨(u1, r2), rc, rr⟩ ⟨(u2, y2), qc, qr⟩ l)) (nodeAt_set (t' := (.mk 6 o x s bb f ⟨(u1, r2), rc, rr⟩ ⟨(y1, y2), qc, qr⟩ l)) HBOX.out 6 (.int .i64 (u1)) (by omega) rfl) 10 (.int .i64 (u2)) (by omega) rfl)
              have HWW : Hid (Wr (fun b => b = O) wr W) := by unfold Hid; rw [← hW]; exact (((Wr.refl (fun b => b = O) wr).trans (Wr.cell (S := fun b => b = O) _ rfl)).trans (Wr.cell (S := fun b => b = O) _ rfl))
              have HRR : Hid (W.heap[R]? = some (.cells #[.int .i64 0, .int .i64 0, .float .f64 0, .string ⟨#[]⟩, .bool false, .int .i64 0, .int .i64 0, .int .i64 0, .bool false, .bool false, .int .i64 0, .int .i64 0, .bool false, .bool false, .slice none 0 0] 29 (0, 0))) := (HWW.out.block R (Array.getElem?_eq_some_iff.1 HRES.out).1 hRO).trans HRES.out
              cases uo
              · go_wp2_with (first
                  | (go_at_call 78; refine (HSP.out).mono ?_; rintro e w3 ⟨rfl, rfl⟩)
                  | (rw [hW])
                  | (go_at_call 79; refine (lost22_any _).mono ?_; rintro e w3 ⟨rfl, hg3⟩; have HWW : Hid (Wr (fun b => b = O) wr w3) := Lib.hid (HWW.out.trans (Wr.of_xt hg3.xt)); have HRR := Lib.hid (rowX hg3.xt HRR.out); clear hg3)
                  | (refine wpList_store_row (P := Tryz.prog) rfl 29 _ _ rfl R (nodeC lostT (.slice none 0 0)).toArray rfl rfl 29 _ HRR.out (by kernel_rfl) (by kernel_rfl) (all_oneCell_toArray (nodeC_one lostT (.slice none 0 0) rfl)) ?_))
                (try simp only [Exit.inBlock, Exit.then])
                refine bodyPost_ret (v := .agg (nodeC lostT (.slice none 0 0)).toArray) (results_cell_row rfl _ _ R 29 _ (0, 0) _ rfl (setRow_heap _ _ _ _ _ _ HRR.out) Tryz.underlying29 rfl (by kernel_rfl)) rfl ?_
                have hTT : gT (.mk 6 o x s bb f ⟨(r1, r2), rc, rr⟩ ⟨(y1, y2), qc, qr⟩ l) = lostT := by rw [HTT.out]; simp [turnH, withL, areaF, arOf, HU.out]
                rw [hTT]
                have hsz := HSZ.out
                exact ⟨none, 0, rfl, OwnIn.nilN n, (HXR.out.trans' HWW.out (by omega)).grownB (setRow_grown _ _ _) (fun q hq => by cases hq; omega)⟩
              · go_wp2_with (first
                  | (go_at_call 78; refine (HSP.out).mono ?_; rintro e w3 ⟨rfl, rfl⟩)
                  | (rw [hW])
                  | (refine wpList_load_mid (P := Tryz.prog) rfl 29 _ rfl O 0 rfl (nodeC (.mk 6 o x s bb f ⟨(u1, r2), rc, rr⟩ ⟨(u2, y2), qc, qr⟩ l) (.slice va l.length vc)) _ HRNG.out Tryz.underlying29 rfl (by kernel_rfl) ?_)
                  | (refine wpList_store_row (P := Tryz.prog) rfl 29 _ _ rfl R (nodeC (.mk 6 o x s bb f ⟨(u1, r2), rc, rr⟩ ⟨(u2, y2), qc, qr⟩ l) (.slice va l.length vc)).toArray rfl rfl 29 _ HRR.out (by kernel_rfl) (by kernel_rfl) (all_oneCell_toArray (nodeC_one _ _ rfl)) ?_))
                (try simp only [Exit.inBlock, Exit.then])
                refine bodyPost_ret (v := .agg (nodeC (.mk 6 o x s bb f ⟨(u1, r2), rc, rr⟩ ⟨(u2, y2), qc, qr⟩ l) (.slice va l.length vc)).toArray) (results_cell_row rfl _ _ R 29 _ (0, 0) _ rfl (setRow_heap _ _ _ _ _ _ HRR.out) Tryz.underlying29 rfl (by kernel_rfl)) rfl ?_
                have hTT : gT (.mk 6 o x s bb f ⟨(r1, r2), rc, rr⟩ ⟨(y1, y2), qc, qr⟩ l) = (.mk 6 o x s bb f ⟨(u1, r2), rc, rr⟩ ⟨(u2, y2), qc, qr⟩ (l.map gT)) := by rw [HTT.out]; simp [turnH, withL, areaF, arOf, HU.out]
                rw [hTT]
                have hsz := HSZ.out
                refine ⟨va, vc, ?_, ?_, (HXR.out.trans' HWW.out (by omega)).grownB (setRow_grown _ _ _) (fun q hq => by cases hq; omega)⟩
                · simp [nodeC, NodeT.args, NodeT.kind, NodeT.op, NodeT.x, NodeT.s, NodeT.b, NodeT.f, NodeT.ref, NodeT.to]
                · have := HEND.out.keep (S' := fun b => w.heap.size ≤ b) (w' := (W).setRow R (nodeC (.mk 6 o x s bb f ⟨(u1, r2), rc, rr⟩ ⟨(u2, y2), qc, qr⟩ l) (.slice va l.length vc)).toArray) (fun b hb _ => by omega) (fun b hb hlt => (setRow_other _ _ _ _ (by omega)).trans (HWW.out.block b hlt (by omega)))
                  simpa only [NodeT.args, List.length_map] using this
          · have h5b : (k == 5) = false := by simpa using h5
            have h6b : (k == 6) = false := by simpa using h6
            obtain ⟨W, hW⟩ : ∃ W, wr = W := ⟨_, rfl⟩
            have HRNG : Hid (W.rangeAt O 0 (nodeC (.mk k o x s bb f ⟨(r1, r2), rc, rr⟩ ⟨(y1, y2), qc, qr⟩ l) (.slice va l.length vc))) := by unfold Hid; rw [← hW]; exact NodeAt.cellsF HBOX.out
            have HWW : Hid (Wr (fun b => b = O) wr W) := by unfold Hid; rw [← hW]; exact (Wr.refl (fun b => b = O) wr)
            have HRR : Hid (W.heap[R]? = some (.cells #[.int .i64 0, .int .i64 0, .float .f64 0, .string ⟨#[]⟩, .bool false, .int .i64 0, .int .i64 0, .int .i64 0, .bool false, .bool false, .int .i64 0, .int .i64 0, .bool false, .bool false, .slice none 0 0] 29 (0, 0))) := (HWW.out.block R (Array.getElem?_eq_some_iff.1 HRES.out).1 hRO).trans HRES.out
            subst hW
            go_wp2_with (first
                | (refine wpList_load_mid (P := Tryz.prog) rfl 29 _ rfl O 0 rfl (nodeC (.mk k o x s bb f ⟨(r1, r2), rc, rr⟩ ⟨(y1, y2), qc, qr⟩ l) (.slice va l.length vc)) _ HRNG.out Tryz.underlying29 rfl (by kernel_rfl) ?_)
                | (refine wpList_store_row (P := Tryz.prog) rfl 29 _ _ rfl R (nodeC (.mk k o x s bb f ⟨(r1, r2), rc, rr⟩ ⟨(y1, y2), qc, qr⟩ l) (.slice va l.length vc)).toArray rfl rfl 29 _ HRR.out (by kernel_rfl) (by kernel_rfl) (all_oneCell_toArray (nodeC_one _ _ rfl)) ?_))
            (try simp only [Exit.inBlock, Exit.then])
            refine bodyPost_ret (v := .agg (nodeC (.mk k o x s bb f ⟨(r1, r2), rc, rr⟩ ⟨(y1, y2), qc, qr⟩ l) (.slice va l.length vc)).toArray) (results_cell_row rfl _ _ R 29 _ (0, 0) _ rfl (setRow_heap _ _ _ _ _ _ HRR.out) Tryz.underlying29 rfl (by kernel_rfl)) rfl ?_
            have hTT : gT (.mk k o x s bb f ⟨(r1, r2), rc, rr⟩ ⟨(y1, y2), qc, qr⟩ l) = (.mk k o x s bb f ⟨(r1, r2), rc, rr⟩ ⟨(y1, y2), qc, qr⟩ (l.map gT)) := by rw [HTT.out]; simp [turnH, withL, h5, h6]
            rw [hTT]
            have hsz := HSZ.out
            refine ⟨va, vc, ?_, ?_, (HXR.out.trans' HWW.out (by omega)).grownB (setRow_grown _ _ _) (fun q hq => by cases hq; omega)⟩
            · simp [nodeC, NodeT.args, NodeT.kind, NodeT.op, NodeT.x, NodeT.s, NodeT.b, NodeT.f, NodeT.ref, NodeT.to]
            · have := HEND.out.keep (S' := fun b => w.heap.size ≤ b) (w' := wr.setRow R (nodeC (.mk k o x s bb f ⟨(r1, r2), rc, rr⟩ ⟨(y1, y2), qc, qr⟩ l) (.slice va l.length vc)).toArray) (fun b hb _ => by omega) (fun b hb hlt => (setRow_other _ _ _ _ (by omega)).trans (HWW.out.block b hlt (by omega)))
              simpa only [NodeT.args, List.length_map] using this
end Go.Proofs.YtlgkaipgdhcajaaGreatDoor
