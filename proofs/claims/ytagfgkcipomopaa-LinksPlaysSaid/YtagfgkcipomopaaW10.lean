import Derived.Test.YtagfgkcipomopaaA2
namespace Go.Proofs.Ytagfgkcipomopaa
open Go.RowKit Go.Sort

/-! ### Set -/
def validAr (x : Ar) : Bool := validA x.1.1 x.1.2 x.2.1 x.2.2
def setErr (M : Mp) (a : Ad) (u : List Ar) : Int :=
  if validB a.1 a.2 = false then 20 else if 256 < u.length then 34 else if u.all validAr = false then 1 else if lkM a M = none ∧ 4096 ≤ M.length then 41 else 0
def normL (u : List Ar) : List Ar := compL (sortL arLt u)
def setTo (M : Mp) (a : Ad) (u : List Ar) : Mp := if setErr M a u = 0 then setM a (normL u) M else M
def SetR (w : World) (pb bm : Nat) (F : Nat → Prop) (M : Mp) (a : Ad) (u : List Ar) (e : Ending) (w' : World) : Prop :=
  e = .returned (.int .i64 (setErr M a u)) ∧ Lk w' pb bm (fun b => F b ∨ (w.heap.size ≤ b ∧ b < w'.heap.size)) (setTo M a u) ∧ w.grownBy w' (some bm)
/-- Nothing is set: only new blocks. -/
theorem setR_no {w w' : World} {pb bm : Nat} {F : Nat → Prop} {M : Mp} {a : Ad} {u : List Ar} {n : Int} (h : Lk w pb bm F M) (hF : ∀ b, F b → b < w.heap.size) (hn : setErr M a u = n) (h0 : n ≠ 0) (hx : Xt w w') : SetR w pb bm F M a u (.returned (.int .i64 n)) w' := by
  refine ⟨by rw [hn], ?_, hx.grown _⟩
  have : setTo M a u = M := by unfold setTo; rw [hn, if_neg h0]
  rw [this]
  exact h.keep (fun b hb => RowKit.Below.block hx b (hF b hb)) (fun b hb => Or.inl hb)
theorem all_at {α : Type} {l : List α} {f : α → Bool} {k : Nat} {x : α} (hx : l[k]? = some x) (h : (l.take k).all f = true) (hf : f x = true) : (l.take (k + 1)).all f = true := by
  rw [List.take_add_one, hx, List.all_append, h]; simp [hf]
theorem all_no {α : Type} {l : List α} {f : α → Bool} {k : Nat} {x : α} (hx : l[k]? = some x) (hf : f x = false) : l.all f = false := by
  cases h : l.all f with
  | false => rfl
  | true =>
    rw [List.all_eq_true] at h
    rw [h x (List.mem_of_getElem? hx)] at hf; cases hf
theorem compAr_own {B : Nat} {v : Value} {l : List Ar} {w : World} (h : OwnL w B 41 4 arC v l) : Calls Try.prog 47 #[v] w (CompR w B 41 4 arC v (compL l)) := by
  by_cases hl : l.length < 2
  · exact compAr_short h hl
  · obtain ⟨g, cap, rfl, hb, hc, hR⟩ := RowL.of_own h arC_len (by intro e; subst e; simp at hl)
    exact compAr_long B g cap l w hR hb hc (by omega)
theorem compAd_own {B : Nat} {v : Value} {l : List Ad} {w : World} (h : OwnL w B 34 2 adC v l) : Calls Try.prog 39 #[v] w (CompR w B 34 2 adC v (compL l)) := by
  by_cases hl : l.length < 2
  · exact compAd_short h hl
  · obtain ⟨g, cap, rfl, hb, hc, hR⟩ := RowL.of_own h adC_len (by intro e; subst e; simp at hl)
    exact compAd_long B g cap l w hR hb hc (by omega)
/-- What the last region leans on: the map's store in whatever world still tells the entries. -/
theorem upd_run {w : World} {bm : Nat} {E : List (Ad × Value)} (h : MapIs w bm E) (a : Ad) (v : Value) : ∃ w', (Instr.mapUpdate 74 (.map (some bm)) (.agg #[.int .i64 a.1, .int .i64 a.2]) v).run Try.prog w = .ok () w' ∧ MapIs w' bm (upE a v E) ∧ w.grownBy w' (some bm) := by
  obtain ⟨w', h1, h2, h3, _, _⟩ := h.update (P := Try.prog) (t := 74) (k := 34) (e := 42) adrKey Try.underlying74 a v
  exact ⟨w', h1, h2, h3⟩
/-- What Compact leaves, and the store behind it. -/
def CompS (w3 : World) (pb bm k : Nat) (a : Ad) (B : Nat) (l : List Ar) (E : List (Ad × Value)) (e : Ending) (w4 : World) : Prop :=
  ∃ v2 w5, e = .returned v2 ∧ w4.cell? ⟨pb, 0, none⟩ = some (.map (some bm)) ∧ w4.cell? ⟨k, 0, none⟩ = some (.int .i64 a.1) ∧ w4.cell? ⟨k, 1, none⟩ = some (.int .i64 a.2) ∧
    (Instr.mapUpdate 74 (.map (some bm)) (.agg #[.int .i64 a.1, .int .i64 a.2]) v2).run Try.prog w4 = .ok () w5 ∧
    Hid (OwnL w5 B 41 4 arC v2 l ∧ MapIs w5 bm (upE a v2 E) ∧ w3.heap.size ≤ w5.heap.size ∧ w5.os = w3.os ∧ w5.tape = w3.tape ∧ w5.output = w3.output ∧ ∀ b, b < B → b ≠ bm → w5.heap[b]? = w3.heap[b]?)
theorem comp_for {w3 : World} {pb bm k B : Nat} {a : Ad} {v : Value} {l : List Ar} {E : List (Ad × Value)} (ho : OwnL w3 B 41 4 arC v l) (hm : MapIs w3 bm E) (hbm : bm < B) (hpb : pb < B) (hk : k < B) (hB : B ≤ w3.heap.size)
    (cp : w3.cell? ⟨pb, 0, none⟩ = some (.map (some bm))) (c0 : w3.cell? ⟨k, 0, none⟩ = some (.int .i64 a.1)) (c1 : w3.cell? ⟨k, 1, none⟩ = some (.int .i64 a.2)) : Calls Try.prog 47 #[v] w3.drew (CompS w3 pb bm k a B (compL l) E) := by
  have ho' : OwnL w3.drew B 41 4 arC v l := ho
  refine (compAr_own ho').mono ?_
  rintro e w4 ⟨v2, rfl, hown, hg, hob⟩
  have hb : ∀ b, b < B → w4.heap[b]? = w3.heap[b]? := fun b hb => hg.block b (by show b < w3.heap.size; omega) (fun e => by rcases own_ne ho (r := b) hb with h | h <;> rw [← e] at h <;> simp at h)
  obtain ⟨w5, h1, h2, h3⟩ := upd_run (hm.of_heap (hb bm hbm)) a v2
  refine ⟨v2, w5, rfl, (World.cell?_of_block (w := w3) (a := ⟨pb, 0, none⟩) (hb pb hpb)).trans cp, (World.cell?_of_block (w := w3) (a := ⟨k, 0, none⟩) (hb k hk)).trans c0, (World.cell?_of_block (w := w3) (a := ⟨k, 1, none⟩) (hb k hk)).trans c1, h1, World.ownsRow.kept hown h3 ?_, h2, ?_, h3.os.trans hg.os, h3.tape.trans hg.tape, h3.output.trans hg.output, fun b hb2 hne => (h3.block b ?_ (fun e => hne (by cases e; rfl))).trans (hb b hb2)⟩
  · exact own_ne hown hbm
  · exact Nat.le_trans hg.size h3.size
  · have : w3.heap.size ≤ w4.heap.size := hg.size
    omega
theorem len_setM {a : Ad} {l : List Ar} : ∀ {M : Mp}, SortedM M → (lkM a M).isSome = true → (setM a l M).length = M.length
  | [], _, h => by simp [lkM] at h
  | x :: r, hs, h => by
    obtain ⟨h1, h2⟩ := List.pairwise_cons.1 hs
    unfold setM
    by_cases hx : x.1 = a
    · simp [hx]
    · unfold lkM at h
      simp only [hx, if_false] at h ⊢
      by_cases hl : adLt a x.1 = true
      · exfalso
        obtain ⟨y, hy⟩ := Option.isSome_iff_exists.1 h
        have := h1 _ (lkM_mem hy)
        have h3 := swo_ad.trans _ _ _ hl this
        rw [adLt_irrefl] at h3; cases h3
      · simp only [hl, Bool.false_eq_true, if_false, List.length_cons]
        rw [len_setM h2 h]
theorem len_setM_le {a : Ad} {l : List Ar} : ∀ {M : Mp}, (setM a l M).length ≤ M.length + 1
  | [] => by simp [setM]
  | x :: r => by
    unfold setM
    split
    · simp
    · split
      · simp
      · simp only [List.length_cons]; have := len_setM_le (a := a) (l := l) (M := r); omega
theorem normL_len (u : List Ar) : (normL u).length ≤ u.length := by
  unfold normL compL Lib.compactUpTo
  rw [List.length_map]
  refine Nat.le_trans (List.length_filter_le ..) ?_
  rw [List.length_range, sortL_len]; exact Nat.le_refl _
theorem set_done {w wr w3 w5 : World} {pb bm : Nat} {F : Nat → Prop} {M : Mp} {a : Ad} {u : List Ar} {E : List (Ad × Value)} {v2 : Value} (H : Lk w pb bm F M) (hF : ∀ b, F b → b < w.heap.size) (he : setErr M a u = 0) (hu : u.length ≤ 256) (HE : Ents wr F E M) (HM : MapIs wr bm E) (hx : Xt w wr)
    (h3 : ∀ b, b < wr.heap.size → w3.heap[b]? = wr.heap[b]?) (ho : w3.os = w.os) (ht : w3.tape = w.tape) (hout : w3.output = w.output) (hB : wr.heap.size ≤ w3.heap.size)
    (HH : Hid (OwnL w5 wr.heap.size 41 4 arC v2 (normL u) ∧ MapIs w5 bm (upE a v2 E) ∧ w3.heap.size ≤ w5.heap.size ∧ w5.os = w3.os ∧ w5.tape = w3.tape ∧ w5.output = w3.output ∧ ∀ b, b < wr.heap.size → b ≠ bm → w5.heap[b]? = w3.heap[b]?)) :
    SetR w pb bm F M a u (.returned (.int .i64 0)) w5 := by
  obtain ⟨hown, hm5, hs5, h5o, h5t, h5p, h5b⟩ := HH.out
  have hsz : w.heap.size ≤ wr.heap.size := hx.sz
  have hk : ∀ b, b < w.heap.size → b ≠ bm → w5.heap[b]? = w.heap[b]? := fun b hb hne => (h5b b (by omega) hne).trans ((h3 b (by omega)).trans (RowKit.Below.block hx b hb))
  have hk' : ∀ b, F b → b ≠ bm → w5.heap[b]? = wr.heap[b]? := fun b hb hne => (h5b b (by have := hF b hb; omega) hne).trans (h3 b (by have := hF b hb; omega))
  have hto : setTo M a u = setM a (normL u) M := by unfold setTo; rw [if_pos he]
  refine ⟨by rw [he], ?_, ⟨h5o.trans ho, h5t.trans ht, h5p.trans hout, by omega, fun b hb hne => hk b hb (fun e => hne (by rw [e]))⟩⟩
  rw [hto]
  have HE5 : Ents w5 (fun b => F b ∨ (w.heap.size ≤ b ∧ b < w5.heap.size)) E M := HE.keep' hk' HM.nocell (fun b hb => Or.inl hb)
  refine H.wrote (fun b hb hne => hk b (hF b hb) hne) (fun b hb => Or.inl hb) hm5 (HE5.set (hown.sl arC_len) (fun a n c e => Or.inr ⟨by have := hown.inF a n c e; omega, (World.ownsRow.lt hown a.block (by rw [e]; rfl)).2⟩)) ?_ ?_
  · cases hl : lkM a M with
    | none =>
      have : ¬ (lkM a M = none ∧ 4096 ≤ M.length) := by
        intro hh
        unfold setErr at he
        split at he
        · cases he
        · split at he
          · cases he
          · split at he
            · cases he
            · exact absurd he (by decide)
      have h2 : ¬ 4096 ≤ M.length := fun h => this ⟨hl, h⟩
      exact Nat.le_trans len_setM_le (by omega)
    | some l => rw [len_setM HE.sorted (by rw [hl]; rfl)]; exact H.many
  · intro x hx
    rcases mem_setM hx with rfl | hx
    · exact Nat.le_trans (normL_len u) hu
    · exact H.few x hx
set_option maxRecDepth 20000 in
set_option maxHeartbeats 1000000 in
theorem set16_any (pb bm : Nat) (F : Nat → Prop) (M : Mp) (a : Ad) (v : Value) (u : List Ar) (w : World) (h : Lk w pb bm F M) (hF : ∀ b, F b → b < w.heap.size) (hu : SlOf w arC 4 v u) :
    Calls Try.prog 16 #[.pointer (some ⟨pb, 0, none⟩), .agg #[.int .i64 a.1, .int .i64 a.2], v] w (SetR w pb bm F M a u) := by
  have H := Lib.hid h
  have HF := Lib.hid hF
  have HU := Lib.hid hu
  obtain ⟨w0, hw0, hb0, hs0, c0, c1⟩ := box1 w a.1 a.2 34
  have hg0 : Gr w w0 := by rw [← hw0]; exact (Gr.refl _).alloc _
  obtain ⟨sa, cap, rfl, q1, q2, hcc⟩ := hu
  have HC := Lib.hid hcc
  clear h hF hcc
  cases hv : validB a.1 a.2
  · have he : setErr M a u = 20 := by unfold setErr; rw [if_pos hv]
    have HE := Lib.hid he
    have HV := Lib.hid hv
    clear he hv
    go_enter Try.func16, Try.ntmps16
    go_wp2_with fail
    clear hw0
    refine (valid_any _ _ _).mono ?_
    rintro e w1 ⟨rfl, rfl⟩
    rw [HV.out]
    go_wp2_with fail
    go_ret
    exact setR_no H.out HF.out HE.out (by decide) (hg0.alloc _).xt
  · have HV := Lib.hid hv
    clear hv
    by_cases h256 : 256 < u.length
    · have he : setErr M a u = 34 := by unfold setErr; rw [if_neg (by rw [HV.out]; simp), if_pos h256]
      have HE := Lib.hid he
      clear he
      go_enter Try.func16, Try.ntmps16
      go_wp2_with fail
      clear hw0
      refine (valid_any _ _ _).mono ?_
      rintro e w1 ⟨rfl, rfl⟩
      rw [HV.out]
      go_wp2_with fail
      go_ret
      exact setR_no H.out HF.out HE.out (by decide) (hg0.alloc _).xt
    · have h256' : u.length ≤ 256 := by omega
      obtain ⟨w1, hw1⟩ : ∃ w1, w0.alloc (.cells #[.int .i64 a.1, .int .i64 a.2] 34) = w1 := ⟨_, rfl⟩
      have hg1 : Gr w w1 := by rw [← hw1]; exact hg0.alloc _
      have hs1 : w1.heap.size = w.heap.size + 2 := by rw [← hw1]; simp [hs0]
      have c0' : w1.cell? ⟨w.heap.size, 0, none⟩ = some (.int .i64 a.1) := by rw [← hw1, World.cell?_alloc_past _ _ _ (by omega)]; exact c0
      have c1' : w1.cell? ⟨w.heap.size, 1, none⟩ = some (.int .i64 a.2) := by rw [← hw1, World.cell?_alloc_past _ _ _ (by omega)]; exact c1
      clear h256 hs0 hb0
      go_enter Try.func16, Try.ntmps16
      go_wp2_with fail
      clear hw0 c0 c1
      refine (valid_any _ _ _).mono ?_
      rintro e w1' ⟨rfl, rfl⟩
      rw [HV.out]
      go_wp2_with fail
      clear hw1
      go_loopw [22] (fun i wr => ∃ k : Nat, k ≤ u.length ∧ i = .int .i64 k ∧ Hid ((u.take k).all validAr = true) ∧ Gr w1 wr) (fun i _ => u.length - (intOf i).toNat)
      case atStart => exact ⟨0, Nat.zero_le _, rfl, by unfold Hid; simp, Gr.refl _⟩
      case round =>
        obtain ⟨k, hk, rfl, HK, hg⟩ := hrel
        by_cases hlt : k < u.length
        · obtain ⟨b', off, rfl, hcell⟩ := HC.out (by intro h; simp [h] at hlt)
          obtain ⟨x, hx⟩ : ∃ x, u[k]? = some x := ⟨u[k], by simp [hlt]⟩
          obtain ⟨hgc, hgf⟩ := (hg1.trans hg).xt.cells
          obtain ⟨d0, d1, d2, d3⟩ := ar_cells (hcell k x hx)
          have hb' : b' < w.heap.size := World.block_lt_of_cell? w _ d0
          have e : ∀ o, wr.cell? ⟨b', o, none⟩ = w.cell? ⟨b', o, none⟩ := fun o => hgc b' o hb'
          rw [← e] at d0 d1 d2 d3
          have z2 : b' < wr.heap.size := by have := (hg1.trans hg).xt.sz; omega
          have HX := Lib.hid hx
          clear hcell e hgc hgf hb' hx c0' c1' hs1
          cases hva : validAr x
          · have he : setErr M a u = 1 := by unfold setErr; rw [if_neg (by rw [HV.out]; simp), if_neg (by omega), if_pos (all_no HX.out hva)]
            have HE := Lib.hid he
            clear he
            go_wp2_with fail
            refine (validArea_any _ _ _ _ _).mono ?_
            rintro e w2 ⟨rfl, hg2⟩
            rw [show validA x.1.1 x.1.2 x.2.1 x.2.2 = false from hva]
            go_wp2_with fail
            go_ret
            exact setR_no H.out HF.out HE.out (by decide) (Gr.trans (hg1.trans (hg.alloc _)) hg2).xt
          · go_wp2_with fail
            refine (validArea_any _ _ _ _ _).mono ?_
            rintro e w2 ⟨rfl, hg2⟩
            rw [show validA x.1.1 x.1.2 x.2.1 x.2.2 = true from hva]
            go_wp2_with fail
            go_roundw
            case rel => exact ⟨k + 1, by omega, by go_num, all_at HX.out HK.out hva, Gr.trans (hg.alloc _) hg2⟩
            case measure => simp [intOf]; omega
        · have hkl : k = u.length := by omega
          subst hkl
          have hall : u.all validAr = true := by have := HK.out; rwa [List.take_length] at this
          have HA := Lib.hid hall
          have hgw : Gr w wr := hg1.trans hg
          have HG := Lib.hid hgw
          have hsz : w1.heap.size ≤ wr.heap.size := hg.xt.sz
          have Hr : Hid (Lk wr pb bm F M) := H.out.xt HF.out hgw.xt
          have cp := Hr.out.cell
          rw [← (hg.xt.cells).1 _ _ (by omega)] at c0' c1'
          obtain ⟨E, hm, he⟩ := Hr.out.map
          have HM := Lib.hid hm
          have HEn := Lib.hid he
          have hlk : ∀ n : Nat, (Instr.lookup 74 (.map (some bm)) (.agg #[.int .i64 a.1, .int .i64 a.2]) true).run Try.prog (wr.drewN n) = .ok (.tuple #[(lk a E).getD (.slice none 0 0), .bool (lkM a M).isSome]) (wr.drewN n) := fun n => by
            rw [← (he.look a).2.2]; exact hm.lookup_ok (w := wr.drewN n) adrKey Try.underlying74 zero42 a
          have hln : ∀ (n : Nat) ty, (Builtin.len_ #[74] ty #[.map (some bm)]).run Try.prog (wr.drewN n) = .ok (.int .i64 M.length) (wr.drewN n) := fun n ty => by
            rw [← he.len hm.nodup]; exact MapIs.len (w := wr.drewN n) Try.underlying74 hm
          generalize (lk a E).getD (.slice none 0 0) = vv at hlk
          clear hall hgw hg hm he hg1
          by_cases hfull : lkM a M = none ∧ 4096 ≤ M.length
          · have he : setErr M a u = 41 := by unfold setErr; rw [if_neg (by rw [HV.out]; simp), if_neg (by omega), if_neg (by rw [HA.out]; simp), if_pos hfull]
            have HE := Lib.hid he
            obtain ⟨hno, hfull⟩ := hfull
            rw [hno] at hlk
            simp only [Option.isSome_none] at hlk
            clear he hno
            go_wp2_with fail
            go_quiet (fail)
            go_wp2_with fail
            go_ret
            exact setR_no H.out HF.out HE.out (by decide) (HG.out.drewN _).xt
          · have he : setErr M a u = 0 := by unfold setErr; rw [if_neg (by rw [HV.out]; simp), if_neg (by omega), if_neg (by rw [HA.out]; simp), if_neg hfull]
            have HE := Lib.hid he
            clear he
            cases hth : lkM a M with
            | none =>
              have hfull : ¬ 4096 ≤ M.length := fun h => hfull ⟨hth, h⟩
              rw [hth] at hlk
              simp only [Option.isSome_none] at hlk
              clear hth
              go_wp2_with fail
              go_quiet (fail)
              go_wp2_with fail
              clear hlk hln
              refine (cloneAr_any _ u _ (HU.out.xt (HG.out.drewN nq).xt) (by omega)).mono ?_
              rintro e w2 ⟨v1, rfl, hown1, hx1⟩
              go_wp2_with fail
              refine (sortAr_own hown1 (by omega)).mono ?_
              rintro e w3 ⟨rfl, hown2, hg3⟩
              have HO2 := Lib.hid hown2
              -- what is old stands
              have hbig : ∀ b, b < wr.heap.size → w3.heap[b]? = wr.heap[b]? := fun b hb => (hg3.block b (by have : wr.heap.size ≤ w2.heap.size := hx1.size; omega) (fun e => by rcases own_ne hown1 (r := b) hb with h | h <;> rw [← e] at h <;> simp at h)).trans (RowKit.Below.block hx1 b hb)
              have HB3 := Lib.hid hbig
              have hpb : pb < wr.heap.size := World.block_lt_of_cell? wr _ cp
              have hbm : bm < wr.heap.size := HM.out.lt
              have hkb : w.heap.size < wr.heap.size := by omega
              have cp3 : w3.cell? ⟨pb, 0, none⟩ = some (.map (some bm)) := (World.cell?_of_block (w := wr) (a := ⟨pb, 0, none⟩) (hbig pb hpb)).trans cp
              have c03 : w3.cell? ⟨w.heap.size, 0, none⟩ = some (.int .i64 a.1) := (World.cell?_of_block (w := wr) (a := ⟨w.heap.size, 0, none⟩) (hbig _ hkb)).trans c0'
              have c13 : w3.cell? ⟨w.heap.size, 1, none⟩ = some (.int .i64 a.2) := (World.cell?_of_block (w := wr) (a := ⟨w.heap.size, 1, none⟩) (hbig _ hkb)).trans c1'
              have hs23 : wr.heap.size ≤ w3.heap.size := Nat.le_trans hx1.size hg3.size
              have HM3 : Hid (MapIs w3 bm E) := HM.out.of_heap (hbig bm hbm)
              have hcomp := Lib.hid (comp_for (B := wr.heap.size) HO2.out HM3.out hbm hpb hkb hs23 cp3 c03 c13)
              have HR3 : Hid (w3.os = w.os ∧ w3.tape = w.tape ∧ w3.output = w.output) := ⟨hg3.os.trans (hx1.os.trans HG.out.xt.os), hg3.tape.trans (hx1.tape.trans HG.out.xt.tape), hg3.output.trans (hx1.output.trans HG.out.xt.output)⟩
              have HS23 := Lib.hid hs23
              have hsz3 : w.heap.size < wr.heap.size := by omega
              clear hown2 hown1 hg3 hx1 hbig cp c0' c1' hs1
              go_wp2_with fail
              go_region_with (go_at_call 47; refine (hcomp.out).mono ?_; rintro e w4 ⟨v2, w5, rfl, k0, k1, k2, hup, HH⟩)
              all_goals
                go_wp2_with fail
                go_ret
                exact set_done H.out HF.out HE.out h256' HEn.out HM.out HG.out.xt HB3.out HR3.out.1 HR3.out.2.1 HR3.out.2.2 HS23.out HH
            | some ll =>
              rw [hth] at hlk
              simp only [Option.isSome_some] at hlk
              clear hth hfull
              go_wp2_with fail
              go_quiet (fail)
              go_wp2_with fail
              clear hlk hln
              refine (cloneAr_any _ u _ (HU.out.xt (HG.out.drewN nq).xt) (by omega)).mono ?_
              rintro e w2 ⟨v1, rfl, hown1, hx1⟩
              go_wp2_with fail
              refine (sortAr_own hown1 (by omega)).mono ?_
              rintro e w3 ⟨rfl, hown2, hg3⟩
              have HO2 := Lib.hid hown2
              -- what is old stands
              have hbig : ∀ b, b < wr.heap.size → w3.heap[b]? = wr.heap[b]? := fun b hb => (hg3.block b (by have : wr.heap.size ≤ w2.heap.size := hx1.size; omega) (fun e => by rcases own_ne hown1 (r := b) hb with h | h <;> rw [← e] at h <;> simp at h)).trans (RowKit.Below.block hx1 b hb)
              have HB3 := Lib.hid hbig
              have hpb : pb < wr.heap.size := World.block_lt_of_cell? wr _ cp
              have hbm : bm < wr.heap.size := HM.out.lt
              have hkb : w.heap.size < wr.heap.size := by omega
              have cp3 : w3.cell? ⟨pb, 0, none⟩ = some (.map (some bm)) := (World.cell?_of_block (w := wr) (a := ⟨pb, 0, none⟩) (hbig pb hpb)).trans cp
              have c03 : w3.cell? ⟨w.heap.size, 0, none⟩ = some (.int .i64 a.1) := (World.cell?_of_block (w := wr) (a := ⟨w.heap.size, 0, none⟩) (hbig _ hkb)).trans c0'
              have c13 : w3.cell? ⟨w.heap.size, 1, none⟩ = some (.int .i64 a.2) := (World.cell?_of_block (w := wr) (a := ⟨w.heap.size, 1, none⟩) (hbig _ hkb)).trans c1'
              have hs23 : wr.heap.size ≤ w3.heap.size := Nat.le_trans hx1.size hg3.size
              have HM3 : Hid (MapIs w3 bm E) := HM.out.of_heap (hbig bm hbm)
              have hcomp := Lib.hid (comp_for (B := wr.heap.size) HO2.out HM3.out hbm hpb hkb hs23 cp3 c03 c13)
              have HR3 : Hid (w3.os = w.os ∧ w3.tape = w.tape ∧ w3.output = w.output) := ⟨hg3.os.trans (hx1.os.trans HG.out.xt.os), hg3.tape.trans (hx1.tape.trans HG.out.xt.tape), hg3.output.trans (hx1.output.trans HG.out.xt.output)⟩
              have HS23 := Lib.hid hs23
              have hsz3 : w.heap.size < wr.heap.size := by omega
              clear hown2 hown1 hg3 hx1 hbig cp c0' c1' hs1
              go_wp2_with fail
              go_region_with (go_at_call 47; refine (hcomp.out).mono ?_; rintro e w4 ⟨v2, w5, rfl, k0, k1, k2, hup, HH⟩)
              all_goals
                go_wp2_with fail
                go_ret
                exact set_done H.out HF.out HE.out h256' HEn.out HM.out HG.out.xt HB3.out HR3.out.1 HR3.out.2.1 HR3.out.2.2 HS23.out HH
end Go.Proofs.Ytagfgkcipomopaa
