import Derived.Test.YtagfgkcipomopaaW33
namespace Go.Proofs.Ytagfgkcipomopaa
open Go.RowKit Go.Sort

/-! ### Copy -/
def CopyR (w : World) (M : Mp) (e : Ending) (w' : World) : Prop := ∃ pb bm, e = .returned (.pointer (some ⟨pb, 0, none⟩)) ∧ Lk w' pb bm (fun b => w.heap.size ≤ b ∧ b < w'.heap.size) M ∧ Xt w w'
/-- What of it is copied. -/
def partM (ks : List Ad) (M : Mp) : Mp := M.filter fun x => decide (x.1 ∈ ks)
theorem lkM_part (ks : List Ad) (a : Ad) : ∀ (M : Mp), lkM a (partM ks M) = if a ∈ ks then lkM a M else none
  | [] => by simp [partM, lkM]
  | x :: r => by
    have ih := lkM_part ks a r
    unfold partM at ih ⊢
    rw [List.filter_cons]
    by_cases hx : x.1 = a
    · by_cases ha : a ∈ ks
      · simp [hx, ha, lkM]
      · rw [if_neg (by rw [hx]; simpa using ha), ih, if_neg ha, if_neg ha]
    · by_cases hk : x.1 ∈ ks
      · rw [if_pos (by simpa using hk)]
        unfold lkM
        rw [if_neg hx, if_neg hx, ih]
      · rw [if_neg (by simpa using hk), ih]
        conv => rhs; unfold lkM
        rw [if_neg hx]
theorem ents_add {w : World} {F : Nat → Prop} {E : List (Ad × Value)} {M : Mp} {ks : List Ad} {c : Ad} {v : Value} {l : List Ar} (h : Ents w F E (partM ks M)) (hs : SortedM M) (hl : lkM c M = some l) (hv : SlOf w arC 4 v l) (hF : slIn F v) : Ents w F (upE c v E) (partM (ks ++ [c]) M) where
  sorted := hs.filter _
  no b hb := by
    rw [lkM_part] at hb
    rw [lk_up]
    by_cases hcb : c = b
    · subst hcb
      rw [if_pos (by simp), hl] at hb; cases hb
    · rw [if_neg hcb]
      refine h.no b ?_
      rw [lkM_part]
      by_cases hbk : b ∈ ks
      · rw [if_pos hbk]; rw [if_pos (by simp [hbk])] at hb; exact hb
      · rw [if_neg hbk]
  yes b l' hb := by
    rw [lkM_part] at hb
    rw [lk_up]
    by_cases hcb : c = b
    · subst hcb
      rw [if_pos (by simp), hl] at hb
      cases hb
      rw [if_pos rfl]
      exact ⟨v, rfl, hv, hF⟩
    · rw [if_neg hcb]
      refine h.yes b l' ?_
      rw [lkM_part]
      by_cases hbk : b ∈ ks
      · rw [if_pos hbk]; rw [if_pos (by simp [hbk])] at hb; exact hb
      · rw [if_neg (by simp [hbk]; exact fun e => hcb e.symm)] at hb; cases hb
theorem part_all {M : Mp} {ks : List Ad} (h : ∀ x ∈ M, x.1 ∈ ks) : partM ks M = M :=
  List.filter_eq_self.2 fun x hx => by simpa using h x hx
theorem lk_in {c : Ad} {v : Value} : ∀ {E : List (Ad × Value)}, (E.map (·.1)).Nodup → (c, v) ∈ E → lk c E = some v
  | [], _, h => by cases h
  | x :: r, hn, h => by
    simp only [List.map_cons, List.nodup_cons] at hn
    unfold lk
    rcases List.mem_cons.1 h with h | h
    · rw [← h]; simp
    · have : ¬ x.1 = c := fun e => hn.1 (List.mem_map.2 ⟨_, h, e.symm⟩)
      rw [if_neg this]; exact lk_in hn.2 h
/-- What Clone leaves, and the store behind it. -/
def CloneS (wA : World) (pb bm k : Nat) (a : Ad) (l : List Ar) (E : List (Ad × Value)) (e : Ending) (w4 : World) : Prop :=
  ∃ v' w5, e = .returned v' ∧ w4.cell? ⟨pb, 0, none⟩ = some (.map (some bm)) ∧ w4.cell? ⟨k, 0, none⟩ = some (.int .i64 a.1) ∧ w4.cell? ⟨k, 1, none⟩ = some (.int .i64 a.2) ∧
    (Instr.mapUpdate 74 (.map (some bm)) (.agg #[.int .i64 a.1, .int .i64 a.2]) v').run Try.prog w4 = .ok () w5 ∧
    Hid (OwnL w5 wA.heap.size 41 4 arC v' l ∧ MapIs w5 bm (upE a v' E) ∧ wA.grownBy w5 (some bm))
theorem clone_for {wA : World} {pb bm k : Nat} {a : Ad} {v : Value} {l : List Ar} {E : List (Ad × Value)} (hs : SlOf wA arC 4 v l) (hl : l.length ≤ 256) (hm : MapIs wA bm E) (cp : wA.cell? ⟨pb, 0, none⟩ = some (.map (some bm))) (c0 : wA.cell? ⟨k, 0, none⟩ = some (.int .i64 a.1)) (c1 : wA.cell? ⟨k, 1, none⟩ = some (.int .i64 a.2)) :
    Calls Try.prog 44 #[v] wA.drew (CloneS wA pb bm k a l E) := by
  refine (cloneAr_any v l wA.drew (hs.xt (Xt.refl _).drew) (by omega)).mono ?_
  rintro e w4 ⟨v', rfl, hown, hx⟩
  have hx' : Xt wA w4 := xt_drew hx
  have hc := (hx'.cells).1
  obtain ⟨w5, h1, h2, h3⟩ := upd_run (hm.of_heap (RowKit.Below.block hx' bm hm.lt)) a v'
  refine ⟨v', w5, rfl, (hc _ _ (World.block_lt_of_cell? wA _ cp)).trans cp, (hc _ _ (World.block_lt_of_cell? wA _ c0)).trans c0, (hc _ _ (World.block_lt_of_cell? wA _ c1)).trans c1, h1, World.ownsRow.kept hown h3 (own_ne hown hm.lt), h2, gb_trans (hx'.grown _) h3⟩
set_option maxRecDepth 100000 in
set_option maxHeartbeats 4000000 in
theorem copy32_any (pb bm : Nat) (F : Nat → Prop) (M : Mp) (w : World) (h : Lk w pb bm F M) (hF : ∀ b, F b → b < w.heap.size) : Calls Try.prog 32 #[.pointer (some ⟨pb, 0, none⟩)] w (CopyR w M) := by
  have hc := h.cell
  have hpb : pb < w.heap.size := World.block_lt_of_cell? w _ hc
  obtain ⟨E, hm, he⟩ := h.map
  have hbm := hm.lt
  have HND := Lib.hid hm.nodup
  have HE := Lib.hid he
  have HF := Lib.hid hF
  have H := Lib.hid h
  clear he hF h
  go_enter Try.func32, Try.ntmps32
  go_wp2_with fail
  refine (new_any w).mono ?_
  rintro e w1 ⟨rfl, hL, hg1⟩
  have HX1 : Hid (Xt w w1) := hg1.xt
  have hc1 := ((hg1.xt.cells).1 pb 0 hpb).trans hc
  have hm1 : MapIs w1 bm E := hm.of_heap (RowKit.Below.block hg1.xt bm hbm)
  have hs1 : w.heap.size + 1 < w1.heap.size := hL.inP.2
  have hcn := hL.cell
  obtain ⟨E0, hm0, he0⟩ := hL.map
  have HE0 : Hid (Ents w1 (fun b => w.heap.size ≤ b ∧ b < w1.heap.size) E0 (partM [] M)) := by
    have : partM [] M = [] := by unfold partM; rw [List.filter_eq_nil_iff]; simp
    rw [this]; exact he0
  clear hg1 hL he0 hc hm
  go_wp2_with (at_range; refine wpList_range_it _ rfl _ 74 34 42 rfl Try.underlying74 bm E rfl hm1 ?_; intro w2 hI hg2 hs2; go_frame)
  have HX2 : Hid (Xt w w2) := HX1.out.trans hg2.xt
  have HE2 : Hid (Ents w2 (fun b => (w.heap.size ≤ b ∧ b < w2.heap.size) ∧ b ≠ w1.heap.size) E0 (partM [] M)) := HE0.out.keep (fun b hb => RowKit.Below.block hg2.xt b hb.2) (fun b hb => ⟨⟨hb.1, by omega⟩, by omega⟩)
  have HM2 : Hid (MapIs w2 w.heap.size E0) := hm0.of_heap (RowKit.Below.block hg2.xt _ (by omega))
  have hcn2 : w2.cell? ⟨w.heap.size + 1, 0, none⟩ = some (.map (some w.heap.size)) := ((hg2.xt.cells).1 _ 0 hs1).trans hcn
  obtain ⟨r, hr⟩ : ∃ r, w1.heap.size = r := ⟨_, rfl⟩
  rw [hr] at hI hs1 HE2 ⊢
  clear hr hg2 hs2 hm1 hc1 hcn hm0 HE0 HX1
  go_loopg [5] E.length (fun k v wr => ∃ left cur ks E2, left.length = k ∧ Hid ((ks ++ left.map (·.1)).Perm (E.map (·.1))) ∧ Hid (∀ x ∈ left, x ∈ E) ∧ IterIs wr r bm E left cur ∧ Hid (MapIs wr w.heap.size E2) ∧
    Hid (Ents wr (fun b => (w.heap.size ≤ b ∧ b < wr.heap.size) ∧ b ≠ r) E2 (partM ks M)) ∧ wr.cell? ⟨w.heap.size + 1, 0, none⟩ = some (.map (some w.heap.size)) ∧ Hid (Xt w wr))
  case atStart => exact ⟨E, none, [], E0, rfl, by unfold Hid; simp, fun _ h => h, hI, HM2, HE2, hcn2, HX2⟩
  case round =>
    obtain ⟨left, cur, ks, E2, rfl, HP, HIN, hI1, HM, HEn, hcr, HX⟩ := hrel
    go_wp2_with (at_next; refine wpList_next_it _ rfl _ rfl _ _ _ _ _ rfl hI1 ?_ ?_)
    · intro hdone
      subst hdone
      have hpl : w.heap.size + 1 < wr.heap.size := World.block_lt_of_cell? wr _ hcr
      have hp := HP.out
      simp only [List.map_nil, List.append_nil] at hp
      have hall : partM ks M = M := part_all fun x hx => by
        have h1 : x.1 ∈ M.map (·.1) := List.mem_map.2 ⟨x, hx, rfl⟩
        exact (hp.mem_iff).2 (((HE.out.perm HND.out).mem_iff).2 h1)
      have HALL := Lib.hid hall
      clear hp hall hI HM2 HE2 hcn2 HX2 hI1
      go_wp2_with fail
      go_ret
      refine ⟨w.heap.size + 1, w.heap.size, rfl, ⟨hcr, ⟨by omega, hpl⟩, ⟨Nat.le_refl _, by omega⟩, ⟨E2, HM.out, ?_⟩, H.out.many, H.out.few⟩, HX.out⟩
      have := HEn.out
      rw [HALL.out] at this
      exact this.keep (fun _ _ => rfl) (fun b hb => hb.1)
    · intro c d v l1 l2 w3 hl hI2 hg3 hs3 hen
      have HL := Lib.hid hl
      have HP' : Hid (((ks ++ [(c, d)]) ++ (l1 ++ l2).map (·.1)).Perm (E.map (·.1))) := by
        refine List.Perm.trans ?_ HP.out
        rw [hl]
        simp only [List.map_append, List.map_cons, List.append_assoc, List.singleton_append]
        exact List.Perm.append_left _ List.perm_middle.symm
      have HIN' : Hid (∀ x ∈ l1 ++ l2, x ∈ E) := fun x hx => HIN.out x (by rw [hl]; rcases List.mem_append.1 hx with h | h <;> simp [h])
      have hlk : lk (c, d) E = some v := lk_in HND.out (HIN.out _ (by rw [hl]; simp))
      obtain ⟨hsl, hin, hsome⟩ := HE.out.look (c, d)
      rw [hlk] at hsl hin hsome
      obtain ⟨l, hlm⟩ := Option.isSome_iff_exists.1 hsome.symm
      rw [hlm] at hsl
      simp only [Option.getD_some] at hsl hin
      have hfew : l.length ≤ 256 := H.out.few _ (lkM_mem hlm)
      have HLM := Lib.hid hlm
      have hx3 : Xt w w3 := HX.out.grownBy hg3 (by omega)
      have hpl : w.heap.size + 1 < wr.heap.size := World.block_lt_of_cell? wr _ hcr
      have hc3 : w3.cell? ⟨w.heap.size + 1, 0, none⟩ = some (.map (some w.heap.size)) := (cell_grown hg3 hpl (by omega)).trans hcr
      obtain ⟨wA, hwA, hbA, hsA, a0, a1⟩ := box1 w3 c d 34
      have hxA : Xt w wA := hx3.trans hbA
      have hcA : wA.cell? ⟨w.heap.size + 1, 0, none⟩ = some (.map (some w.heap.size)) := (hbA.cell (p := ⟨w.heap.size + 1, 0, none⟩) (by show w.heap.size + 1 < _; omega)).trans hc3
      have hsA' : SlOf wA arC 4 v l := hsl.keep hin (fun b hb => RowKit.Below.block hxA b (HF.out b hb))
      have hmA : MapIs wA w.heap.size E2 := by
        refine HM.out.of_heap ?_
        exact (RowKit.Below.block hbA _ (by omega)).trans (hg3.block _ (by omega) (fun e => by cases e; omega))
      have hcl := clone_for (a := (c, d)) hsA' hfew hmA hcA a0 a1
      rw [hs3] at hcl a0 a1
      have HCL := Lib.hid hcl
      have HI2 := Lib.hid hI2
      have HCR := Lib.hid hcr
      have HG3 := Lib.hid hg3
      have HBA : Hid (Xt w3 wA) := hbA
      have HXA := Lib.hid hxA
      have hkA : wr.heap.size < wA.heap.size := by omega
      clear hl HP HIN hI HM2 HE2 hcn2 HX2 hI1 hlk hsl hin hsome hlm hbA hxA hx3 hI2 hg3 hcr hc3 hsA' hmA hcl
      go_wp2_with fail
      clear hwA hen
      go_region_with (go_at_call 44; refine (HCL.out).mono ?_; rintro e w4 ⟨v', w5, rfl, k0, k1, k2, hup, HH⟩)
      all_goals
       go_wp2_with fail
       go_roundg (l1 ++ l2).length
       case measure => rw [HL.out]; simp
       case rel =>
        have hz3 : wr.heap.size ≤ w3.heap.size := HG3.out.size
        have hzA := HBA.out.sz
        obtain ⟨ho5, hm5, hg5⟩ := HH.out
        have hz5 := hg5.size
        have k5 : ∀ b, b < w3.heap.size → b ≠ w.heap.size → w5.heap[b]? = w3.heap[b]? := fun b hb hne => (hg5.block b (by omega) (fun e => hne (by cases e; rfl))).trans (RowKit.Below.block HBA.out b hb)
        have hrl : r < w3.heap.size := HI2.out.lt
        have hrne := HI2.out.ne
        refine ⟨l1 ++ l2, some ((c, d), v), ks ++ [(c, d)], _, rfl, HP', HIN', ?_, hm5, ?_, ?_, ?_⟩
        · exact HI2.out.of_heap (k5 bm (by omega) (by omega)) (k5 r hrl (by omega))
        · have he5 : Ents w5 (fun b => (w.heap.size ≤ b ∧ b < w5.heap.size) ∧ b ≠ r) E2 (partM ks M) := by
            refine HEn.out.keep' (bm := w.heap.size) (fun b hb hne => ?_) HM.out.nocell (fun b hb => ⟨⟨hb.1.1, by omega⟩, hb.2⟩)
            exact (k5 b (by omega) hne).trans (HG3.out.block b hb.1.2 (fun e => hb.2 (by cases e; rfl)))
          refine ents_add he5 HE.out.sorted HLM.out (ho5.sl arC_len) ?_
          intro a n cc hv
          have h1 := ho5.inF a n cc hv
          have h2 := (World.ownsRow.lt ho5 a.block (by rw [hv]; rfl)).2
          simp at h1
          exact ⟨⟨by omega, by omega⟩, by omega⟩
        · exact (World.cell?_of_block (w := w3) (a := ⟨w.heap.size + 1, 0, none⟩) (k5 (w.heap.size + 1) (by omega) (by omega))).trans ((cell_grown HG3.out hpl (by omega)).trans HCR.out)
        · exact HXA.out.grownBy hg5 (Nat.le_refl _)
end Go.Proofs.Ytagfgkcipomopaa
