import Derived.Test.YtideclfpbpjebaaGreatDoorB28
import Derived.Test.YtideclfpbpjebaaGreatDoorB29
import Derived.Test.YtideclfpbpjebaaGreatDoorB26
namespace Go.Proofs.YtideclfpbpjebaaGreatDoor
section
open Go.RowKit Go.Sort Go.Maps Go.Shelf Go.MapKept
attribute [local go_sem] Oper.semAt_some

theorem pis_get {l : List PI} {i : Nat} {x : PI} (h : l[i]? = some x) : (pis l)[i]? = some (x.a, x.c) := by unfold pis; rw [List.getElem?_map, h]; rfl
theorem pis_get' {l : List PI} {i : Nat} {x : Ad × ContT} (h : (pis l)[i]? = some x) : ∃ y, l[i]? = some y ∧ x = (y.a, y.c) := by
  unfold pis at h
  rw [List.getElem?_map] at h
  obtain ⟨y, hy, rfl⟩ := Option.map_eq_some_iff.1 h
  exact ⟨y, hy, rfl⟩
theorem ord_eq {a b : Ad} (h1 : ¬ orI (cmpI a.2 b.2) (cmpI a.1 b.1) < 0) (h2 : ¬ 0 < orI (cmpI a.2 b.2) (cmpI a.1 b.1)) : a = b := by
  simp only [orI, cmpI] at h1 h2
  refine Prod.ext ?_ ?_ <;> (repeat' split at h1) <;> (repeat' split at h2) <;> omega
theorem ord_swap {a b : Ad} (h : 0 < orI (cmpI a.2 b.2) (cmpI a.1 b.1)) : adLt b a = true := by
  simp only [orI, cmpI] at h
  simp only [adLt, Bool.or_eq_true, Bool.and_eq_true, decide_eq_true_eq]
  (repeat' split at h) <;> omega
/-- Which of both lists' next cells comes first. -/
structure Nxt (l k : List PI) (i j : Nat) (c : Int) : Prop where
  neg : c < 0 → ∃ x, l[i]? = some x ∧ ∀ y, (pis k)[j]? = some y → adLt x.a y.1 = true
  pos : 0 < c → ∃ y, k[j]? = some y ∧ ∀ x, (pis l)[i]? = some x → adLt y.a x.1 = true
  nul : ¬ c < 0 → ¬ 0 < c → ∃ x y, l[i]? = some x ∧ k[j]? = some y ∧ x.a = y.a
theorem Nxt.left {l k : List PI} {i j : Nat} (h : i < l.length) (hj : ¬ j < k.length) : Nxt l k i j (-1) :=
  ⟨fun _ => ⟨l[i], List.getElem?_eq_getElem h, fun y hy => by obtain ⟨z, hz, _⟩ := pis_get' hy; exact absurd (List.getElem?_eq_some_iff.1 hz).1 hj⟩, fun h => by omega, fun h => by omega⟩
theorem Nxt.right {l k : List PI} {i j : Nat} (hi : ¬ i < l.length) (h : j < k.length) : Nxt l k i j 1 :=
  ⟨fun h => by omega, fun _ => ⟨k[j], List.getElem?_eq_getElem h, fun y hy => by obtain ⟨z, hz, _⟩ := pis_get' hy; exact absurd (List.getElem?_eq_some_iff.1 hz).1 hi⟩, fun _ h => by omega⟩
theorem Nxt.ord {l k : List PI} {i j : Nat} {x y : PI} (hx : l[i]? = some x) (hy : k[j]? = some y) : Nxt l k i j (orI (cmpI x.a.2 y.a.2) (cmpI x.a.1 y.a.1)) :=
  ⟨fun h => ⟨x, hx, fun z hz => by rw [pis_get hy] at hz; cases hz; exact (adLt_ord x.a y.a).1 h⟩, fun h => ⟨y, hy, fun z hz => by rw [pis_get hx] at hz; cases hz; exact ord_swap h⟩, fun h1 h2 => ⟨x, y, hx, hy, ord_eq h1 h2⟩⟩
theorem zero_ok : zeroC.ok := by
  refine ⟨?_, ?_, ?_⟩ <;> (simp [zeroC, NodeT.ok, okL]; try decide)
theorem zero_in (w : World) : ∃ n, ArgsIn w n (.slice none zeroC.t.args.length 0) zeroC.t.args := ⟨0, rfl, none, 0, rfl, by omega⟩
/-- Where a put comes from. -/
def PutSrc (l k : List PI) (x : PI) : Prop := x ∈ l ∨ x ∈ k ∨ ∃ a, x = ⟨a, zeroC, none, 0⟩
set_option maxRecDepth 100000 in
set_option maxHeartbeats 2000000 in
theorem dputs_any (ra rc : Nat) (l k : List PI) (w : World) (h : DG w ra l) (g : DG w rc k) (hok : GOk (pis l)) (gok : GOk (pis k)) :
    Calls Tryz.prog 32 #[.pointer (some ⟨ra, 0, none⟩), .pointer (some ⟨rc, 0, none⟩)] w (DListR w (wayP (pis l) (pis k)) (PutSrc l k)) := by
  obtain ⟨v, hc, hP⟩ := h.cell
  obtain ⟨la, lc, rfl, hlc, hlc2⟩ := hP.shape
  obtain ⟨u, gc, gP⟩ := g.cell
  obtain ⟨ka, kc, rfl, hkc, hkc2⟩ := gP.shape
  have hm := h.many
  have gm := g.many
  have HP := Lib.hid hP
  have GP := Lib.hid gP
  have HOK := Lib.hid hok
  have GOK := Lib.hid gok
  have HFC : Hid (∀ V, Xt w V → V.cell? ⟨ra, 0, none⟩ = some (.slice la l.length lc) ∧ V.cell? ⟨rc, 0, none⟩ = some (.slice ka k.length kc)) := Lib.hid fun V hV => ⟨hV.cellsIn _ _ _ hc, hV.cellsIn _ _ _ gc⟩
  clear h hc hP g gc gP hok gok
  go_enter Tryz.func32, Tryz.ntmps32
  go_wp2_with fail
  go_loopw [5, 6, 7] (fun s5 s6 s7 wr => ∃ (i j : Nat) (l1 : List PI), i ≤ l.length ∧ j ≤ k.length ∧ s6 = .int .i64 i ∧ s7 = .int .i64 j ∧ l1.length ≤ i + j ∧ Hid (PutsG wr w.heap.size s5 l1) ∧ Hid (∀ x ∈ l1, PutSrc l k x) ∧ Hid (Mrg (pis l) (pis k) i j (pis l1)) ∧ Hid (Xt w wr)) (fun _ s6 s7 _ => l.length + k.length - (intOf s6).toNat - (intOf s7).toNat)
  case atStart => exact ⟨0, 0, [], Nat.zero_le _, Nat.zero_le _, rfl, rfl, Nat.le_refl _, PutsG.nil _ _, (fun x hx => by cases hx), Mrg.start _ _, Xt.refl _⟩
  case round =>
    obtain ⟨i, j, l1, hi, hj, rfl, rfl, hl1, HG, HU, HL, HX⟩ := hrel
    obtain ⟨k0, k1⟩ := HFC.out wr HX.out
    rcases (by omega : i < l.length ∨ (¬ i < l.length ∧ j < k.length) ∨ (¬ i < l.length ∧ ¬ j < k.length)) with hA | ⟨hA, hB⟩ | ⟨hA, hB⟩
    rotate_left 2
    · have hAi : ¬ (i : Int) < (l.length : Int) := by omega
      have hBi : ¬ (j : Int) < (k.length : Int) := by omega
      obtain rfl : i = l.length := by omega
      obtain rfl : j = k.length := by omega
      go_wp2_with fail
      go_ret
      exact ⟨_, l1, w.heap.size, rfl, Nat.le_refl _, HG.out, by have := HL.out; rw [← pis_len l, ← pis_len k] at this; exact this.stop, HU.out, HX.out⟩
    all_goals
      first
        | have hAi : (i : Int) < (l.length : Int) := by omega
        | have hAi : ¬ (i : Int) < (l.length : Int) := by omega
      first
        | have hBi : (j : Int) < (k.length : Int) := by omega
        | skip
      go_upto_block 2 with fail
      go_cut [8] from 26 to 58 (fun s8 wc => ∃ c : Int, s8 = .int .i64 c ∧ Hid (Nxt l k i j c) ∧ Hid (PutsG wc w.heap.size u5 l1) ∧ Hid (Xt w wc))
      case first =>
        by_cases hB2 : j < k.length
        · have hbk : ((j : Int) == (k.length : Int)) = false := by simp; omega
          by_cases hA2 : i < l.length
          · first
            | (exfalso; omega)
            | have hbi : ((i : Int) == (l.length : Int)) = false := by simp; omega
              obtain ⟨x, hx⟩ : ∃ x, l[i]? = some x := ⟨l[i], List.getElem?_eq_getElem hA2⟩
              obtain ⟨y, hy⟩ : ∃ y, k[j]? = some y := ⟨k[j], List.getElem?_eq_getElem hB2⟩
              obtain ⟨b, off, rfl, q0, q1, _, _, _, _⟩ := HP.out.at hx
              obtain ⟨b', off', rfl, r0, r1, _, _, _, _⟩ := GP.out.at hy
              have HN := Lib.hid (Nxt.ord hx hy)
              have HO := Lib.hid (fun V => order10_any x.a.1 x.a.2 y.a.1 y.a.2 V)
              have HF : Hid (∀ V, Xt w V → V.cell? ⟨ra, 0, none⟩ = some (.slice (some ⟨b, off, none⟩) l.length lc) ∧ V.cell? ⟨rc, 0, none⟩ = some (.slice (some ⟨b', off', none⟩) k.length kc) ∧ V.cell? ⟨b, off + i * 23, none⟩ = some (.int .i64 x.a.1) ∧ V.cell? ⟨b, off + i * 23 + 1, none⟩ = some (.int .i64 x.a.2) ∧ V.cell? ⟨b', off' + j * 23, none⟩ = some (.int .i64 y.a.1) ∧ V.cell? ⟨b', off' + j * 23 + 1, none⟩ = some (.int .i64 y.a.2)) := Lib.hid fun V hV =>
                ⟨(HFC.out V hV).1, (HFC.out V hV).2, hV.cellsIn _ _ _ q0, hV.cellsIn _ _ _ q1, hV.cellsIn _ _ _ r0, hV.cellsIn _ _ _ r1⟩
              clear hx hy q0 q1 r0 r1
              go_upto_region 6 with fail
              refine rg (fun V => Xt w V) HX.out.drew fun hHeld => ?_
              refine tk HF.out 0 ?_
              refine tk HF.out 1 ?_
              refine tk HF.out 2 ?_
              refine tk HF.out 3 ?_
              refine tk HF.out 4 ?_
              refine tk HF.out 5 ?_
              refine tk HF.out 6 ?_
              refine tk HF.out 7 ?_
              refine tk HF.out 8 ?_
              refine tk HF.out 9 ?_
              refine tk HF.out 10 ?_
              refine tk HF.out 11 ?_
              refine tk HF.out 12 ?_
              refine tk HF.out 13 ?_
              refine tk HF.out 14 ?_
              refine tk HF.out 15 ?_
              refine rdH 16 fun K hK => ?_
              go_simp
              refine (HO.out _).mono ?_
              rintro e w2 ⟨rfl, hg2⟩
              have HX2 := Lib.hid (HX.out.drew.trans hg2.xt)
              have HG2 := Lib.hid (HG.out.xt ((Xt.refl wr).drew.trans hg2.xt))
              refine ko hK HX2.out fun hHe => ?_
              clear hK K hg2
              refine tk HF.out 17 ?_
              refine wpAnyH_done (by kernel_rfl) ?_ _
              go_wp2_with fail
              go_meet
              case rel => exact ⟨_, rfl, HN, HG2, HX2⟩
          · have hbi : ((i : Int) == (l.length : Int)) = true := by simp; omega
            first
            | (exfalso; omega)
            | go_wp2_with fail
              go_meet
              case rel => exact ⟨1, rfl, Nxt.right hA2 hB2, HG, HX⟩
        · have hbk : ((j : Int) == (k.length : Int)) = true := by simp; omega
          first
          | (exfalso; omega)
          | go_wp2_with fail
            go_meet
            case rel => exact ⟨-1, rfl, Nxt.left (by omega) hB2, HG, HX⟩
      case rest =>
        clear HG HX k0 k1 hAi
        try clear hBi
        try clear hB
        clear hA
        obtain ⟨c, rfl, HN, HG, HX⟩ := hcut
        obtain ⟨k0, k1⟩ := HFC.out wc HX.out
        by_cases hc1 : c < 0
        · obtain ⟨x, hx, hn⟩ := HN.out.neg hc1
          have HM := Lib.hid (HL.out.left HOK.out GOK.out (pis_get hx) hn)
          have hil := (List.getElem?_eq_some_iff.1 hx).1
          have hki : (i : Int) < (l.length : Int) := by omega
          obtain ⟨b, off, rfl, q0, q1, _, _, _, _⟩ := HP.out.at hx
          have q0 := HX.out.cellsIn _ _ _ q0
          have q1 := HX.out.cellsIn _ _ _ q1
          obtain ⟨v', w3, hp, hg3, hx3⟩ := push_old HG.out HX.out ⟨x.a, zeroC, none, 0⟩ zero_ok (zero_in w) (by omega) 29
          have HG3 := Lib.hid hg3
          have HX3 := Lib.hid hx3
          clear hg3 hx3 hx hn
          go_wp2_with (first
            | (refine wpList_one_put rfl _ rfl ⟨x.a, zeroC, none, 0⟩ rfl ?_)
            | (at_builtin; refine Lib.wpList_append_run _ rfl _ _ _ _ rfl _ _ rfl rfl _ _ hp ?_; clear hp))
          go_roundw
          case rel => exact ⟨i + 1, j, _, by omega, hj, by go_num, rfl, by simp; omega, HG3, (fun y hy => (List.mem_append.1 hy).elim (HU.out y) (fun e => Or.inr (Or.inr ⟨_, List.mem_singleton.1 e⟩))), by unfold Hid; rw [pis_snoc]; exact HM.out, HX3⟩
          case measure => simp [intOf]; omega
        · by_cases hc2 : 0 < c
          · obtain ⟨x, hx, hn⟩ := HN.out.pos hc2
            have HM := Lib.hid (HL.out.right HOK.out GOK.out (pis_get hx) hn)
            have hil := (List.getElem?_eq_some_iff.1 hx).1
            have hkj : (j : Int) < (k.length : Int) := by omega
            obtain ⟨b, off, rfl, _, _, _, hok, n, hin⟩ := GP.out.at hx
            have hrow := GP.out.row hx
            have HFR : Hid (wc.rangeAt b (off + j * 23) (inC1 x)) := Lib.hid fun o u hu => HX.out.cellsIn _ _ _ (hrow o u hu)
            obtain ⟨v', w3, hp, hg3, hx3⟩ := push_old HG.out HX.out x hok ⟨n, hin⟩ (by omega) 29
            have HG3 := Lib.hid hg3
            have HX3 := Lib.hid hx3
            have HXM := Lib.hid (List.mem_of_getElem? hx)
            clear hg3 hx3 hx hn hrow hok hin
            go_wp2_with (first
              | (refine wpList_load_mid (P := Tryz.prog) rfl 84 _ rfl b (off + j * 23) rfl (inC1 x) _ HFR.out Tryz.underlying84 rfl (by kernel_rfl) ?_)
              | (refine wpList_one_put rfl _ rfl x rfl ?_)
              | (at_builtin; refine Lib.wpList_append_run _ rfl _ _ _ _ rfl _ _ rfl rfl _ _ hp ?_; clear hp))
            go_roundw
            case rel => exact ⟨i, j + 1, _, hi, by omega, rfl, by go_num, by simp; omega, HG3, (fun y hy => (List.mem_append.1 hy).elim (HU.out y) (fun e => Or.inr (Or.inl (by rw [List.mem_singleton.1 e]; exact HXM.out)))), by unfold Hid; rw [pis_snoc]; exact HM.out, HX3⟩
            case measure => simp [intOf]; omega
          · obtain ⟨x, y, hx, hy, hxy⟩ := HN.out.nul hc1 hc2
            have HM := Lib.hid (HL.out.both HOK.out GOK.out (pis_get hx) (pis_get hy) hxy)
            have hil := (List.getElem?_eq_some_iff.1 hx).1
            have hjl := (List.getElem?_eq_some_iff.1 hy).1
            have hki : (i : Int) < (l.length : Int) := by omega
            have hkj : (j : Int) < (k.length : Int) := by omega
            obtain ⟨b, off, rfl, _, _, q2, hok, n, hin⟩ := HP.out.at hx
            obtain ⟨b', off', rfl, _, _, r2, gok, m, gin⟩ := GP.out.at hy
            have hrow := GP.out.row hy
            have HFR : Hid (∀ V, Xt w V → V.rangeAt b' (off' + j * 23) (inC1 y)) := Lib.hid fun V hV o u hu => hV.cellsIn _ _ _ (hrow o u hu)
            have HRX : Hid (∀ V, Xt w V → V.rangeAt b (off + i * 23 + 2) ((inC1 x).drop 2)) := Lib.hid fun V hV j u hu => hV.cellsIn _ _ _ (q2 j u hu)
            have HRY : Hid (∀ V, Xt w V → V.rangeAt b' (off' + j * 23 + 2) ((inC1 y).drop 2)) := Lib.hid fun V hV j u hu => hV.cellsIn _ _ _ (r2 j u hu)
            have HF : Hid (∀ V, Xt w V → V.cell? ⟨ra, 0, none⟩ = some (.slice (some ⟨b, off, none⟩) l.length lc) ∧ V.cell? ⟨rc, 0, none⟩ = some (.slice (some ⟨b', off', none⟩) k.length kc)) := Lib.hid HFC.out
            obtain ⟨sb, hsb⟩ : ∃ v, sameCB x.c y.c = v := ⟨_, rfl⟩
            have HSA := Lib.hid (same17_any (n + m) x.c y.c x.p y.p x.cap y.cap wc.drew hok gok (ArgsIn.upQ (Nat.le_add_right _ _) (hin.xt HX.out.drew)) (ArgsIn.upQ (Nat.le_add_left _ _) (gin.xt HX.out.drew)))
            rw [hsb] at HSA HM
            have HPU := Lib.hid (fun (W : World) (hG : PutsG W w.heap.size u5 l1) (hW : Xt w W) => push_old hG hW y gok ⟨m, gin⟩ (by omega) 29)
            have HYM := Lib.hid (List.mem_of_getElem? hy)
            clear hx hy hxy q2 r2 hok gok hin gin hrow hsb
            go_upto_region 11 with fail
            refine rg (fun V => Xt w V) HX.out.drew fun hHeld => ?_
            refine tk HF.out 0 ?_
            refine tk HF.out 1 ?_
            refine tk HF.out 2 ?_
            refine tk HF.out 3 ?_
            refine tk HF.out 4 ?_
            refine tk HF.out 5 ?_
            refine tk HF.out 6 ?_
            refine tkH 7 (.agg ((inC1 x).drop 2).toArray) ?_ ?_
            · intro V hSw; exact exec_load_mid 46 _ (by rfl) b (off + i * 23 + 2) (by rfl) ((inC1 x).drop 2) _ (HRX.out V hSw) Tryz.underlying46 rfl (by kernel_rfl)
            try simp only [Act.put, nm]
            refine tk HF.out 8 ?_
            refine tk HF.out 9 ?_
            refine tk HF.out 10 ?_
            refine tk HF.out 11 ?_
            refine tk HF.out 12 ?_
            refine tk HF.out 13 ?_
            refine tk HF.out 14 ?_
            refine tkH 15 (.agg ((inC1 y).drop 2).toArray) ?_ ?_
            · intro V hSw; exact exec_load_mid 46 _ (by rfl) b' (off' + j * 23 + 2) (by rfl) ((inC1 y).drop 2) _ (HRY.out V hSw) Tryz.underlying46 rfl (by kernel_rfl)
            try simp only [Act.put, nm]
            refine rdH 16 fun K hK => ?_
            go_simp
            refine (HSA.out).mono ?_
            rintro e w2 ⟨rfl, hg2⟩
            have HX2 := Lib.hid (HX.out.drew.trans hg2.xt)
            have HG2 := Lib.hid (HG.out.xt ((Xt.refl wc).drew.trans hg2.xt))
            refine ko hK HX2.out fun hHe => ?_
            clear hK K hg2
            refine tk HF.out 17 ?_
            refine wpAnyH_done (by kernel_rfl) ?_ _
            obtain ⟨m0, m1⟩ := HF.out w2 HX2.out
            clear hHe hHeld HSA HG k0 k1
            cases sb
            · obtain ⟨v', w3, hp, hg3, hx3⟩ := HPU.out w2 HG2.out HX2.out
              have HG3 := Lib.hid hg3
              have HX3 := Lib.hid hx3
              clear hg3 hx3
              go_wp2_with (first
                | (refine wpList_load_mid (P := Tryz.prog) rfl 84 _ rfl b' (off' + j * 23) rfl (inC1 y) _ (HFR.out _ HX2.out) Tryz.underlying84 rfl (by kernel_rfl) ?_)
                | (refine wpList_one_put rfl _ rfl y rfl ?_)
                | (at_builtin; refine Lib.wpList_append_run _ rfl _ _ _ _ rfl _ _ rfl rfl _ _ hp ?_; clear hp))
              go_roundw
              case rel => exact ⟨i + 1, j + 1, _, by omega, by omega, by go_num, by go_num, by simp; omega, HG3, (fun z hz => (List.mem_append.1 hz).elim (HU.out z) (fun e => Or.inr (Or.inl (by rw [List.mem_singleton.1 e]; exact HYM.out)))), by unfold Hid; rw [pis_snoc]; exact HM.out, HX3⟩
              case measure => simp [intOf]; omega
            · go_wp2_with fail
              go_roundw
              case rel => exact ⟨i + 1, j + 1, l1, by omega, by omega, by go_num, by go_num, by omega, HG2, HU, by have := HM.out; unfold Hid; simpa using this, HX2⟩
              case measure => simp [intOf]; omega
end
end Go.Proofs.YtideclfpbpjebaaGreatDoor
