import Derived.Test.YtagfgkcipomopaaW39
import Derived.Test.YtagfgkcipomopaaW28
import Derived.Deep.RegionHeld3
namespace Go.Proofs.Ytagfgkcipomopaa
open Go.RowKit Go.Sort

/-! ### the document's Copy -/
theorem oper_append_eq {P : Program} {w : World} {o : Oper} {a : Act} {K : Act → World → Prop} {Q : Exit → Act → World → Prop} (s x : Operand) (t : TypeId)
    (ho : o.op = .call { callee := .builtin .append, args := #[s, x], argTypes := #[t, t] }) (v u : Value) (hs : a.eval s = v) (hx : a.eval x = u) {v' : Value} {w' : World} (hr : (Builtin.append_ #[t, t] o.type #[v, u]).run P w = .ok v' w')
    (h : K (a.put o.dst v') w') : Oper.wp P o a w K Q := by
  unfold Oper.wp execOp
  simp only [ho, resolve, invoke, builtin, Sem.run_bind, Sem.run_pure, Result.andThen_ok, List.map_toArray, List.map_cons, List.map_nil, hs, hx, hr]
  exact h
def RCopyR (w : World) (M : Mp) (e : Ending) (w' : World) : Prop := ∃ px, e = .returned (.pointer (some ⟨px, 0, none⟩)) ∧ Ref w' px (fun b => w.heap.size ≤ b ∧ b < w'.heap.size) M ∧ Xt w w'
theorem Ref.mono {w : World} {px : Nat} {F F' : Nat → Prop} {M : Mp} (h : Ref w px F M) (hF : ∀ b, F b → F' b) : Ref w px F' M := h.keep (fun _ _ => rfl) hF (Nat.le_refl _)
theorem RefIs.xt {w w' : World} {px : Nat} {F : Nat → Prop} {M : Mp} {v : Value} {R : List (Ad × SV)} (h : RefIs w px F M v R) (hlt : ∀ b, F b → b < w.heap.size) (hx : Xt w w') : RefIs w' px F M v R := ref_xt h hlt hx
/-- One more rule, at the end. -/
theorem ref_snoc {w5 w7 : World} {po : Nat} {B : Nat} {M : Mp} {k : Nat} {x : Ad × List Ar} {vr : Value} {R : List (Ad × SV)} {s : SV} {v' : Value} (hB : B ≤ po) (h : RefIs w5 po (fun b => B ≤ b ∧ b < w5.heap.size) (M.take k) vr R) (hx : M[k]? = some x) (hs : SortedM M) (hM : M.length ≤ 4096) (hf : ∀ x ∈ M, x.2.length ≤ 256)
    (hsl : SlOf w5 arC 4 (slV s) x.2) (hsb : ∀ b : Addr, s.1 = some b → B ≤ b.block ∧ b.block ≠ po ∧ vr.ownBlock ≠ some b.block ∧ b.block < w5.heap.size)
    (hown : w7.ownsRow 0 49 3 v' (R.length + 1) (R.flatMap rlC ++ rlC (x.1, s))) (hg : w5.grownBy w7 vr.ownBlock) (hwh : v'.ownBlock = vr.ownBlock ∨ ∀ g, v'.ownBlock = some g → w5.heap.size ≤ g) :
    Ref (w7.setCell ⟨po, 0, none⟩ v') po (fun b => B ≤ b ∧ b < (w7.setCell ⟨po, 0, none⟩ v').heap.size) (M.take (k + 1)) := by
  have hkl : k < M.length := (List.getElem?_eq_some_iff.1 hx).1
  have hpo : po < w5.heap.size := World.block_lt_of_cell? w5 _ h.cell
  have hvp : vr.ownBlock ≠ some po := fun e => (h.blk po e).2 rfl
  have hp7 : w7.heap[po]? = w5.heap[po]? := hg.block po hpo (fun e => hvp e.symm)
  have hc7 : w7.cell? ⟨po, 0, none⟩ = some vr := (World.cell?_of_block (w := w5) (a := ⟨po, 0, none⟩) hp7).trans h.cell
  have hw8 : ∀ b, b ≠ po → (w7.setCell ⟨po, 0, none⟩ v').heap[b]? = w7.heap[b]? := fun b hb => Below.heap_setCell _ _ _ _ hb
  have hsz : (w7.setCell ⟨po, 0, none⟩ v').heap.size = w7.heap.size := by simp
  have hs57 := hg.size
  have hML : (M.take k).length = k := by rw [List.length_take]; omega
  have hRL : R.length = k := by rw [h.each.1, hML]
  have hv'p : ∀ g, v'.ownBlock = some g → B ≤ g ∧ g ≠ po ∧ g < w7.heap.size := by
    intro g hg'
    have hlt := (World.ownsRow.lt hown g hg').2
    rcases hwh with e | e
    · rw [e] at hg'
      exact ⟨(h.blk g hg').1.1, (h.blk g hg').2, hlt⟩
    · have := e g hg'
      have hq := h.inP.1
      exact ⟨by omega, by omega, hlt⟩
  have htk : M.take (k + 1) = M.take k ++ [x] := by rw [List.take_add_one, hx]; rfl
  refine ⟨v', R ++ [(x.1, s)], World.cell?_setCell_same' w7 _ _ (by rw [hc7]; rfl), ?_, ⟨h.inP.1, by rw [hsz]; omega⟩, ?_, fun g hg' => ⟨⟨(hv'p g hg').1, by rw [hsz]; exact (hv'p g hg').2.2⟩, (hv'p g hg').2.1⟩, ?_, ?_, ?_, ?_⟩
  · have := h.fro
    unfold World.frozen? at this
    rw [← hp7] at this
    have hf7 : w7.frozen? ⟨po, 0, none⟩ = false := by unfold World.frozen?; exact this
    simp [hf7]
  · have ho : OwnL w7 0 49 3 rlC v' (R ++ [(x.1, s)]) := OwnL.snoc hown
    refine World.ownsRow.kept ho (row := some po) ⟨rfl, rfl, rfl, by rw [hsz]; exact Nat.le_refl _, fun b hb hn => hw8 b (fun e => hn (by rw [e]))⟩ ?_
    cases hq : v'.ownBlock with
    | none => exact Or.inl rfl
    | some q => exact Or.inr (fun e => by cases e; exact (hv'p _ hq).2.1 rfl)
  · have h1 := h.each.ins (k := k) (by rw [hML]; exact Nat.le_refl _) (a := x.1) (s := s) (l := x.2) hsl (fun b hb => by obtain ⟨q1, q2, q3, q4⟩ := hsb b hb; exact ⟨⟨q1, q4⟩, q2, q3, q4⟩)
    rw [List.take_of_length_le (by omega), List.drop_eq_nil_of_le (by omega), List.take_of_length_le (by omega), List.drop_eq_nil_of_le (by omega)] at h1
    rw [htk]
    refine h1.keep2 (h1.ob hwh) (fun b hb hbl hne hob => (hw8 b hne).trans (hg.block b hbl (fun e => hob e.symm))) (fun b hb => ⟨hb.1, by rw [hsz]; omega⟩) (by rw [hsz]; omega)
  · exact hs.sublist (List.take_sublist _ _)
  · rw [List.length_take]; omega
  · intro y hy; exact hf y (List.mem_of_mem_take hy)
set_option maxRecDepth 100000 in
set_option maxHeartbeats 8000000 in
theorem rcopy33_any (px : Nat) (F : Nat → Prop) (M : Mp) (w : World) (h : Ref w px F M) (hF : ∀ b, F b → b < w.heap.size) : Calls Try.prog 33 #[.pointer (some ⟨px, 0, none⟩)] w (RCopyR w M) := by
  obtain ⟨i0, hi, hz0, hz1, hz2⟩ := info_parts info49
  obtain ⟨j0, hj, hy0, hy1, hy2⟩ := info_parts info41
  obtain ⟨vM, RM, hRM⟩ := h
  have hp := hRM.cell
  have hpx : px < w.heap.size := World.block_lt_of_cell? w _ hp
  have HS := Lib.hid hRM.sorted
  have HM4 := Lib.hid hRM.many
  have HFW := Lib.hid hRM.few
  obtain ⟨sv, cap, rfl, q1, q2, hcc⟩ := hRM.rules
  have HC := Lib.hid hcc
  clear hcc hRM hF
  go_enter Try.func33, Try.ntmps33
  go_wp2_with fail
  obtain ⟨w1, hw1⟩ : ∃ w1, w.alloc (Obj.cells #[Value.slice none 0 0] 64) = w1 := ⟨_, rfl⟩
  rw [hw1]
  have HX1 : Hid (Xt w w1) := by rw [← hw1]; exact (Xt.refl _).alloc _
  have hs1 : w1.heap.size = w.heap.size + 1 := by rw [← hw1]; simp
  have HR1 : Hid (Ref w1 w.heap.size (fun b => w.heap.size ≤ b ∧ b < w1.heap.size) (M.take 0)) := by
    rw [← hw1]
    exact ⟨.slice none 0 0, [], by simp, by unfold World.frozen?; rw [show (w.alloc (Obj.cells #[Value.slice none 0 0] 64)).heap[w.heap.size]? = some (Obj.cells #[Value.slice none 0 0] 64) from (MapKept.heap_alloc w _).1]; simp, ⟨Nat.le_refl _, by simp⟩, World.ownsRow_nil _ _ _ _, (fun g h => by cases h), ⟨rfl, fun i x y h => by simp at h⟩, List.Pairwise.nil, by simp, fun x hx => by simp at hx⟩
  obtain ⟨po, hpo⟩ : ∃ n, w.heap.size = n := ⟨_, rfl⟩
  have HPO := Lib.hid hpo
  rw [hpo] at HR1 hs1 hpx ⊢
  clear hw1 hpo
  go_loopw [4] (fun s4 wr => ∃ k : Nat, k ≤ M.length ∧ s4 = .int .i64 k ∧ Hid (Ref wr po (fun b => po ≤ b ∧ b < wr.heap.size) (M.take k)) ∧ Hid (Xt w wr)) (fun s4 _ => M.length - (intOf s4).toNat)
  case atStart => exact ⟨0, Nat.zero_le _, rfl, HR1, HX1⟩
  case round =>
    clear HR1 HX1
    obtain ⟨k, hk, rfl, HR, HX⟩ := hrel
    have hp0 := ((HX.out.cells).1 px 0 (by rw [HPO.out]; exact hpx)).trans hp
    by_cases hlt : k < M.length
    · obtain ⟨b', off, rfl, hcell⟩ := HC.out (by intro h; simp [h] at hlt)
      obtain ⟨x, hx⟩ : ∃ x, M[k]? = some x := ⟨M[k], by simp [hlt]⟩
      obtain ⟨d0, d1, ux, d2, hux⟩ := hcell k x hx
      have hbv : b' < w.heap.size := World.block_lt_of_cell? w _ d0
      have d0r := ((HX.out.cells).1 b' _ hbv).trans d0
      have d1r := ((HX.out.cells).1 b' _ hbv).trans d1
      have d2r := ((HX.out.cells).1 b' _ hbv).trans d2
      have hki : (k : Int) < (M.length : Int) := by omega
      have hxf : x.2.length ≤ 256 := HFW.out x (List.mem_of_getElem? hx)
      obtain ⟨vr, R, hR⟩ := HR.out
      have hRl : R.length ≤ 4096 := by have := hR.each.1; rw [List.length_take] at this; have := HM4.out; omega
      have hpr : po < wr.heap.size := hR.inP.2
      -- the areas, copied
      obtain ⟨v5, w5, hr5, hown5, hg5⟩ := app_list (S := 42) (base := wr.heap.size) (w := wr) Try.underlying42 hj hy0 hy1 hy2 rfl (by decide) arC_len arC_one (show OwnL wr wr.heap.size 41 4 arC (.slice none 0 0) [] from World.ownsRow_nil _ _ _ _) (hux.xt HX.out) (Nat.le_refl _) 42 (by unfold maxLen; simp; omega) (by simp; omega)
      rw [List.nil_append] at hown5
      have hx5 : Xt wr w5 := Below.grown (Below.refl _ wr) hg5 (Nat.le_refl _) (fun q hq => by cases hq)
      have hs5 := hx5.sz
      obtain ⟨s5, hs5v, hs5b⟩ : ∃ s5 : SV, v5 = slV s5 ∧ ∀ b : Addr, s5.1 = some b → v5.ownBlock = some b.block := by
        rcases hown5.2 with ⟨rfl, _⟩ | ⟨g, c, cur, rfl, _⟩
        · exact ⟨(none, 0, 0), rfl, fun b h => by cases h⟩
        · exact ⟨(some ⟨g, 0, none⟩, x.2.length, c), rfl, fun b h => by cases h; rfl⟩
      have hsl5 := hown5.sl arC_len
      have hbl5 : ∀ b : Addr, s5.1 = some b → wr.heap.size ≤ b.block ∧ b.block < w5.heap.size := fun b hb => World.ownsRow.lt hown5 _ (hs5b b hb)
      rw [hs5v] at hsl5 hr5
      obtain ⟨sa, sn, sc⟩ := s5
      have hR5 : RefIs w5 po (fun b => po ≤ b ∧ b < wr.heap.size) (M.take k) vr R := hR.xt (fun b hb => hb.2) hx5
      have hR5' : RefIs w5 po (fun b => po ≤ b ∧ b < w5.heap.size) (M.take k) vr R := ⟨hR5.cell, hR5.fro, ⟨hR5.inP.1, by omega⟩, hR5.own, fun g hg => ⟨⟨(hR5.blk g hg).1.1, by have := (hR5.blk g hg).1.2; omega⟩, (hR5.blk g hg).2⟩, hR5.each.keep (fun _ _ _ _ _ => rfl) (fun b hb => ⟨hb.1, by omega⟩) (Nat.le_refl _), hR5.sorted, hR5.many, hR5.few⟩
      have HR5 := Lib.hid hR5'
      have HSL5 := Lib.hid hsl5
      have hp5 := ((hx5.cells).1 px 0 (by omega)).trans hp0
      have d05 := ((hx5.cells).1 b' _ (by have := HX.out.sz; omega)).trans d0r
      have d15 := ((hx5.cells).1 b' _ (by have := HX.out.sz; omega)).trans d1r
      have hb'5 : b' < w5.heap.size := World.block_lt_of_cell? w5 _ d05
      have hpx5 : px < w5.heap.size := World.block_lt_of_cell? w5 _ hp5
      have c5 := hR5'.cell
      have f5 := hR5'.fro
      have hpo5 : po < w5.heap.size := hR5'.inP.2
      -- the rules, one more
      obtain ⟨v', w7, hpush, hown7, hg7, hwh⟩ := run_append_where (P := Try.prog) (w5.drew.alloc (.cells #[.int .i64 x.1.1, .int .i64 x.1.2, .slice sa sn sc] 49)) 22 22 49 i0 (.agg #[.int .i64 0, .int .i64 0, .slice none 0 0]) 3 40 Try.underlying22 hi hz0 hz1 hz2 rfl (by decide) vr R.length (R.flatMap rlC) (World.ownsRow.alloc (w := w5.drew) hR5'.own _) ⟨w5.heap.size, 0, none⟩ 1 1 [.int .i64 x.1.1, .int .i64 x.1.2, .slice sa sn sc] rfl (news_at w5.drew [.int .i64 x.1.1, .int .i64 x.1.2, .slice sa sn sc] 49 rfl) (rlC_one (x.1, (sa, sn, sc))) (by unfold maxLen; omega) (by omega)
      have hg57d : w5.drew.grownBy w7 vr.ownBlock := (World.grownBy_alloc w5.drew _ _).trans hg7
      have hg57 : w5.grownBy w7 vr.ownBlock := ⟨hg57d.os, hg57d.tape, hg57d.output, hg57d.size, hg57d.block⟩
      obtain ⟨va, vn, vc, hv'⟩ : ∃ a n c, v' = .slice a n c := by
        rcases hown7.2 with ⟨h, _⟩ | ⟨g', cap', _, h, _⟩
        · exact ⟨_, _, _, h⟩
        · exact ⟨_, _, _, h⟩
      subst hv'
      have hs57 := hg57.size
      have hvp : vr.ownBlock ≠ some po := fun e => (hR5'.blk po e).2 rfl
      have hk7 : ∀ q, q < w5.heap.size → vr.ownBlock ≠ some q → ∀ o, w7.cell? ⟨q, o, none⟩ = w5.cell? ⟨q, o, none⟩ := fun q hq hn o => World.cell?_of_block (w := w5) (a := ⟨q, o, none⟩) (hg57.block q hq (fun e => hn e.symm))
      have hvo : ∀ q, q < po → vr.ownBlock ≠ some q := fun q hq e => by have := (hR5'.blk q e).1.1; omega
      have hbpo : b' < po := by rw [← HPO.out]; exact hbv
      have p7 := (hk7 px hpx5 (hvo px hpx) 0).trans hp5
      have e07 := (hk7 b' hb'5 (hvo b' hbpo) (off + k * 3)).trans d05
      have e17 := (hk7 b' hb'5 (hvo b' hbpo) (off + k * 3 + 1)).trans d15
      have c7 := (hk7 po hpo5 hvp 0).trans c5
      have f7 : w7.frozen? ⟨po, 0, none⟩ = false := by
        have := f5
        unfold World.frozen? at this ⊢
        rw [hg57.block po hpo5 (fun e => hvp e.symm)]; exact this
      have HEND : Hid (Ref (w7.setCell ⟨po, 0, none⟩ (.slice va vn vc)) po (fun b => po ≤ b ∧ b < (w7.setCell ⟨po, 0, none⟩ (.slice va vn vc)).heap.size) (M.take (k + 1))) :=
        ref_snoc (s := (sa, sn, sc)) (Nat.le_refl _) hR5' hx HS.out HM4.out HFW.out hsl5 (fun b hb => by
          obtain ⟨r1, r2⟩ := hbl5 b hb
          refine ⟨by omega, by omega, fun e => ?_, r2⟩
          have := (hR.blk _ e).1.2; omega) hown7 hg57 (hwh.imp id (fun h g hg => by have := h g hg; simp at this; omega))
      have HXE : Hid (Xt w (w7.setCell ⟨po, 0, none⟩ (.slice va vn vc))) := by
        have x5 : Xt w w5 := HX.out.trans hx5
        have x7 : Xt w w7 := Below.grown x5 hg57 (by have := x5.sz; exact this) (fun q hq => by have := (hR5'.blk q hq).1.1; have := HPO.out; omega)
        have hg8 : w7.grownBy (w7.setCell ⟨po, 0, none⟩ (.slice va vn vc)) (some po) := setCells_grown po [.slice va vn vc] 0 w7
        exact x7.grownBy hg8 (by rw [HPO.out]; exact Nat.le_refl _)
      have HS5 : Hid (w5.drew.cell? ⟨px, 0, none⟩ = some (.slice (some ⟨b', off, none⟩) M.length cap) ∧ w5.drew.cell? ⟨b', off + k * 3, none⟩ = some (.int .i64 x.1.1) ∧ w5.drew.cell? ⟨b', off + k * 3 + 1, none⟩ = some (.int .i64 x.1.2)) := ⟨hp5, d05, d15⟩
      obtain ⟨wA, hwA⟩ : ∃ wA, w5.drew.alloc (.cells #[.int .i64 x.1.1, .int .i64 x.1.2, .slice sa sn sc] 49) = wA := ⟨_, rfl⟩
      have hxA : Xt w5 wA := by rw [← hwA]; exact ((Xt.refl w5).drew).alloc _
      have HS6 : Hid (wA.cell? ⟨px, 0, none⟩ = some (.slice (some ⟨b', off, none⟩) M.length cap) ∧ wA.cell? ⟨b', off + k * 3, none⟩ = some (.int .i64 x.1.1) ∧ wA.cell? ⟨b', off + k * 3 + 1, none⟩ = some (.int .i64 x.1.2)) :=
        ⟨((hxA.cells).1 _ _ hpx5).trans hp5, ((hxA.cells).1 _ _ hb'5).trans d05, ((hxA.cells).1 _ _ hb'5).trans d15⟩
      have c6 : wA.cell? ⟨po, 0, none⟩ = some vr := ((hxA.cells).1 _ _ hpo5).trans c5
      have HS7 : Hid (w7.cell? ⟨px, 0, none⟩ = some (.slice (some ⟨b', off, none⟩) M.length cap) ∧ w7.cell? ⟨b', off + k * 3, none⟩ = some (.int .i64 x.1.1) ∧ w7.cell? ⟨b', off + k * 3 + 1, none⟩ = some (.int .i64 x.1.2)) := ⟨p7, e07, e17⟩
      have HS8 : Hid ((w7.setCell ⟨po, 0, none⟩ (.slice va vn vc)).cell? ⟨px, 0, none⟩ = some (.slice (some ⟨b', off, none⟩) M.length cap) ∧ (w7.setCell ⟨po, 0, none⟩ (.slice va vn vc)).cell? ⟨b', off + k * 3, none⟩ = some (.int .i64 x.1.1) ∧ (w7.setCell ⟨po, 0, none⟩ (.slice va vn vc)).cell? ⟨b', off + k * 3 + 1, none⟩ = some (.int .i64 x.1.2)) :=
        ⟨(World.cell?_setCell_far _ _ _ _ (by show po ≠ px; omega)).trans p7, (World.cell?_setCell_far _ _ _ _ (by show po ≠ b'; omega)).trans e07, (World.cell?_setCell_far _ _ _ _ (by show po ≠ b'; omega)).trans e17⟩
      rw [hwA] at hpush
      simp only [slV] at hr5
      have hs5v' : v5 = .slice sa sn sc := hs5v
      subst hs5v'
      clear hcell hx d0 d1 d2 hux hR hown5 hg5 hx5 hg57d hs5v hs5b hsl5 hbl5 hR5 hR5' hown7 hg7 hwh hg57 hvp hk7 hvo hxA
      go_wp2_with (at_builtin; refine wpList_append_eq rfl _ _ 42 rfl _ _ rfl rfl hr5 ?_)
      clear hr5 d0r d1r d2r hp0
      refine wp_region_held_drew (S := fun w' => w'.cell? ⟨px, 0, none⟩ = some (.slice (some ⟨b', off, none⟩) M.length cap) ∧ w'.cell? ⟨b', off + k * 3, none⟩ = some (.int .i64 x.1.1) ∧ w'.cell? ⟨b', off + k * 3 + 1, none⟩ = some (.int .i64 x.1.2)) (by kernel_rfl) HS5.out (fun hHeld => ?_)
      refine wpAnyH_take (i := 0) (oi := _) (v := ?_) rfl (by kernel_rfl) (by kernel_rfl) (by kernel_rfl) (fun _ _ _ h => h) (Or.inl ⟨by rfl, ?_⟩) (by assumption) ?_
      rotate_left
      · intro w hSw; (try dsimp only at hSw); go_simp; first | done | with_reducible rfl
      try simp only [Act.put, List.getElem_toArray, List.getElem_cons_zero, List.getElem_cons_succ, List.setIfInBounds_toArray, List.set_cons_zero, List.set_cons_succ]
      refine wpAnyH_take (i := 1) (oi := _) (v := ?_) rfl (by kernel_rfl) (by kernel_rfl) (by kernel_rfl) (fun _ _ _ h => h) (Or.inl ⟨by rfl, ?_⟩) (by assumption) ?_
      rotate_left
      · intro w hSw; (try dsimp only at hSw); go_simp; first | done | with_reducible rfl
      try simp only [Act.put, List.getElem_toArray, List.getElem_cons_zero, List.getElem_cons_succ, List.setIfInBounds_toArray, List.set_cons_zero, List.set_cons_succ]
      refine wpAnyH_take (i := 2) (oi := _) (v := ?_) rfl (by kernel_rfl) (by kernel_rfl) (by kernel_rfl) (fun _ _ _ h => h) (Or.inl ⟨by rfl, ?_⟩) (by assumption) ?_
      rotate_left
      · intro w hSw; (try dsimp only at hSw); go_simp; first | done | with_reducible rfl
      try simp only [Act.put, List.getElem_toArray, List.getElem_cons_zero, List.getElem_cons_succ, List.setIfInBounds_toArray, List.set_cons_zero, List.set_cons_succ]
      refine wpAnyH_take (i := 3) (oi := _) (v := ?_) rfl (by kernel_rfl) (by kernel_rfl) (by kernel_rfl) (fun _ _ _ h => h) (Or.inl ⟨by rfl, ?_⟩) (by assumption) ?_
      rotate_left
      · intro w hSw; (try dsimp only at hSw); go_simp; first | done | with_reducible rfl
      try simp only [Act.put, List.getElem_toArray, List.getElem_cons_zero, List.getElem_cons_succ, List.setIfInBounds_toArray, List.set_cons_zero, List.set_cons_succ]
      refine wpAnyH_take (i := 5) (oi := _) (v := ?_) rfl (by kernel_rfl) (by kernel_rfl) (by kernel_rfl) (fun _ _ _ h => h) (Or.inl ⟨by rfl, ?_⟩) (by assumption) ?_
      rotate_left
      · intro w hSw; (try dsimp only at hSw); go_simp; first | done | with_reducible rfl
      try simp only [Act.put, List.getElem_toArray, List.getElem_cons_zero, List.getElem_cons_succ, List.setIfInBounds_toArray, List.set_cons_zero, List.set_cons_succ]
      refine wpAnyH_take (i := 6) (oi := _) (v := ?_) rfl (by kernel_rfl) (by kernel_rfl) (by kernel_rfl) (fun _ _ _ h => h) (Or.inl ⟨by rfl, ?_⟩) (by assumption) ?_
      rotate_left
      · intro w hSw; (try dsimp only at hSw); go_simp; first | done | with_reducible rfl
      try simp only [Act.put, List.getElem_toArray, List.getElem_cons_zero, List.getElem_cons_succ, List.setIfInBounds_toArray, List.set_cons_zero, List.set_cons_succ]
      refine wpAnyH_take (i := 7) (oi := _) (v := ?_) rfl (by kernel_rfl) (by kernel_rfl) (by kernel_rfl) (fun _ _ _ h => h) (Or.inl ⟨by rfl, ?_⟩) (by assumption) ?_
      rotate_left
      · intro w hSw; (try dsimp only at hSw); go_simp; first | done | with_reducible rfl
      try simp only [Act.put, List.getElem_toArray, List.getElem_cons_zero, List.getElem_cons_succ, List.setIfInBounds_toArray, List.set_cons_zero, List.set_cons_succ]
      refine wpAnyH_take (i := 8) (oi := _) (v := ?_) rfl (by kernel_rfl) (by kernel_rfl) (by kernel_rfl) (fun _ _ _ h => h) (Or.inl ⟨by rfl, ?_⟩) (by assumption) ?_
      rotate_left
      · intro w hSw; (try dsimp only at hSw); go_simp; first | done | with_reducible rfl
      try simp only [Act.put, List.getElem_toArray, List.getElem_cons_zero, List.getElem_cons_succ, List.setIfInBounds_toArray, List.set_cons_zero, List.set_cons_succ]
      refine wpAnyH_take (i := 9) (oi := _) (v := ?_) rfl (by kernel_rfl) (by kernel_rfl) (by kernel_rfl) (fun _ _ _ h => h) (Or.inl ⟨by rfl, ?_⟩) (by assumption) ?_
      rotate_left
      · intro w hSw; (try dsimp only at hSw); go_simp; first | done | with_reducible rfl
      try simp only [Act.put, List.getElem_toArray, List.getElem_cons_zero, List.getElem_cons_succ, List.setIfInBounds_toArray, List.set_cons_zero, List.set_cons_succ]
      refine wpAnyH_take (i := 10) (oi := _) (v := ?_) rfl (by kernel_rfl) (by kernel_rfl) (by kernel_rfl) (fun _ _ _ h => h) (Or.inl ⟨by rfl, ?_⟩) (by assumption) ?_
      rotate_left
      · intro w hSw; (try dsimp only at hSw); go_simp; first | done | with_reducible rfl
      try simp only [Act.put, List.getElem_toArray, List.getElem_cons_zero, List.getElem_cons_succ, List.setIfInBounds_toArray, List.set_cons_zero, List.set_cons_succ]
      refine wpAnyH_take (i := 11) (oi := _) (v := ?_) rfl (by kernel_rfl) (by kernel_rfl) (by kernel_rfl) (fun _ _ _ h => h) (Or.inl ⟨by rfl, ?_⟩) (by assumption) ?_
      rotate_left
      · intro w hSw; (try dsimp only at hSw); go_simp; first | done | with_reducible rfl
      try simp only [Act.put, List.getElem_toArray, List.getElem_cons_zero, List.getElem_cons_succ, List.setIfInBounds_toArray, List.set_cons_zero, List.set_cons_succ]
      refine wpAnyH_take (i := 12) (oi := _) (v := ?_) rfl (by kernel_rfl) (by kernel_rfl) (by kernel_rfl) (fun _ _ _ h => h) (Or.inl ⟨by rfl, ?_⟩) (by assumption) ?_
      rotate_left
      · intro w hSw; (try dsimp only at hSw); go_simp; first | done | with_reducible rfl
      try simp only [Act.put, List.getElem_toArray, List.getElem_cons_zero, List.getElem_cons_succ, List.setIfInBounds_toArray, List.set_cons_zero, List.set_cons_succ]
      refine wpAnyH_take (i := 13) (oi := _) (v := ?_) rfl (by kernel_rfl) (by kernel_rfl) (by kernel_rfl) (fun _ _ _ h => h) (Or.inl ⟨by rfl, ?_⟩) (by assumption) ?_
      rotate_left
      · intro w hSw; (try dsimp only at hSw); go_simp; first | done | with_reducible rfl
      try simp only [Act.put, List.getElem_toArray, List.getElem_cons_zero, List.getElem_cons_succ, List.setIfInBounds_toArray, List.set_cons_zero, List.set_cons_succ]
      refine wpAnyH_take (i := 14) (oi := _) (v := ?_) rfl (by kernel_rfl) (by kernel_rfl) (by kernel_rfl) (fun _ _ _ h => h) (Or.inl ⟨by rfl, ?_⟩) (by assumption) ?_
      rotate_left
      · intro w hSw; (try dsimp only at hSw); go_simp; first | done | with_reducible rfl
      try simp only [Act.put, List.getElem_toArray, List.getElem_cons_zero, List.getElem_cons_succ, List.setIfInBounds_toArray, List.set_cons_zero, List.set_cons_succ]
      refine wpAnyH_ready (rs := [4, 15]) (by kernel_rfl) (by simp) ?_
      refine AllReadyH.cons (o := _) rfl (fun K hK => ?_) (AllReadyH.cons (o := _) rfl (fun K hK => ?_) AllReadyH.nil)
      · go_simp
        refine hK.out _ _ HS5.out (fun hHeld3 => ?_)
        clear hK K
        try simp only [Act.put, List.getElem_toArray, List.getElem_cons_zero, List.getElem_cons_succ, List.setIfInBounds_toArray, List.set_cons_zero, List.set_cons_succ]
        refine wpAnyH_ready (rs := [15]) (by kernel_rfl) (by simp) ?_
        refine AllReadyH.cons (o := _) rfl (fun K hK => ?_) AllReadyH.nil
        go_simp
        refine hK.out _ _ HS6.out (fun hHeld3 => ?_)
        clear hK K
        try simp only [Act.put, List.getElem_toArray, List.getElem_cons_zero, List.getElem_cons_succ, List.setIfInBounds_toArray, List.set_cons_zero, List.set_cons_succ]
        refine wpAnyH_ready (rs := [16]) (by kernel_rfl) (by simp) ?_
        refine AllReadyH.cons (o := _) rfl (fun K hK => ?_) AllReadyH.nil
        rw [if_pos (by rfl)]
        refine oper_append_eq _ _ 22 rfl _ _ rfl rfl hpush ?_
        refine hK.out _ _ HS7.out (fun hHeld4 => ?_)
        clear hK K
        try simp only [Act.put, List.getElem_toArray, List.getElem_cons_zero, List.getElem_cons_succ, List.setIfInBounds_toArray, List.set_cons_zero, List.set_cons_succ]
        refine wpAnyH_take (i := 17) (oi := _) (v := ?_) rfl (by kernel_rfl) (by kernel_rfl) (by kernel_rfl) (fun _ _ _ h => h) (Or.inl ⟨by rfl, ?_⟩) (by assumption) ?_
        rotate_left
        · intro w hSw; (try dsimp only at hSw); go_simp; first | done | with_reducible rfl
        try simp only [Act.put, List.getElem_toArray, List.getElem_cons_zero, List.getElem_cons_succ, List.setIfInBounds_toArray, List.set_cons_zero, List.set_cons_succ]
        refine wpAnyH_take (i := 18) (oi := _) (v := ?_) rfl (by kernel_rfl) (by kernel_rfl) (by kernel_rfl) (fun _ _ _ h => h) (Or.inl ⟨by rfl, ?_⟩) (by assumption) ?_
        rotate_left
        · intro w hSw; (try dsimp only at hSw); go_simp; first | done | with_reducible rfl
        try simp only [Act.put, List.getElem_toArray, List.getElem_cons_zero, List.getElem_cons_succ, List.setIfInBounds_toArray, List.set_cons_zero, List.set_cons_succ]
        refine wpAnyH_ready (rs := [19]) (by kernel_rfl) (by simp) ?_
        refine AllReadyH.cons (o := _) rfl (fun K hK => ?_) AllReadyH.nil
        go_simp
        refine hK.out _ _ HS8.out (fun hHeld5 => ?_)
        clear hK K
        refine wpAnyH_done (by kernel_rfl) ?_ _
        go_wp2_with fail
        go_roundw
        case rel => exact ⟨k + 1, by omega, by go_num, HEND.out, HXE.out⟩
        case measure => simp [intOf]; omega
      · go_simp
        refine hK.out _ _ HS6.out (fun hHeld3 => ?_)
        clear hK K
        try simp only [Act.put, List.getElem_toArray, List.getElem_cons_zero, List.getElem_cons_succ, List.setIfInBounds_toArray, List.set_cons_zero, List.set_cons_succ]
        refine wpAnyH_ready (rs := [4]) (by kernel_rfl) (by simp) ?_
        refine AllReadyH.cons (o := _) rfl (fun K hK => ?_) AllReadyH.nil
        go_simp
        refine hK.out _ _ HS6.out (fun hHeld3 => ?_)
        clear hK K
        try simp only [Act.put, List.getElem_toArray, List.getElem_cons_zero, List.getElem_cons_succ, List.setIfInBounds_toArray, List.set_cons_zero, List.set_cons_succ]
        refine wpAnyH_ready (rs := [16]) (by kernel_rfl) (by simp) ?_
        refine AllReadyH.cons (o := _) rfl (fun K hK => ?_) AllReadyH.nil
        rw [if_pos (by rfl)]
        refine oper_append_eq _ _ 22 rfl _ _ rfl rfl hpush ?_
        refine hK.out _ _ HS7.out (fun hHeld4 => ?_)
        clear hK K
        try simp only [Act.put, List.getElem_toArray, List.getElem_cons_zero, List.getElem_cons_succ, List.setIfInBounds_toArray, List.set_cons_zero, List.set_cons_succ]
        refine wpAnyH_take (i := 17) (oi := _) (v := ?_) rfl (by kernel_rfl) (by kernel_rfl) (by kernel_rfl) (fun _ _ _ h => h) (Or.inl ⟨by rfl, ?_⟩) (by assumption) ?_
        rotate_left
        · intro w hSw; (try dsimp only at hSw); go_simp; first | done | with_reducible rfl
        try simp only [Act.put, List.getElem_toArray, List.getElem_cons_zero, List.getElem_cons_succ, List.setIfInBounds_toArray, List.set_cons_zero, List.set_cons_succ]
        refine wpAnyH_take (i := 18) (oi := _) (v := ?_) rfl (by kernel_rfl) (by kernel_rfl) (by kernel_rfl) (fun _ _ _ h => h) (Or.inl ⟨by rfl, ?_⟩) (by assumption) ?_
        rotate_left
        · intro w hSw; (try dsimp only at hSw); go_simp; first | done | with_reducible rfl
        try simp only [Act.put, List.getElem_toArray, List.getElem_cons_zero, List.getElem_cons_succ, List.setIfInBounds_toArray, List.set_cons_zero, List.set_cons_succ]
        refine wpAnyH_ready (rs := [19]) (by kernel_rfl) (by simp) ?_
        refine AllReadyH.cons (o := _) rfl (fun K hK => ?_) AllReadyH.nil
        go_simp
        refine hK.out _ _ HS8.out (fun hHeld5 => ?_)
        clear hK K
        refine wpAnyH_done (by kernel_rfl) ?_ _
        go_wp2_with fail
        go_roundw
        case rel => exact ⟨k + 1, by omega, by go_num, HEND.out, HXE.out⟩
        case measure => simp [intOf]; omega
    · obtain rfl : k = M.length := by omega
      have HRE := HR.out
      rw [List.take_of_length_le (Nat.le_refl _)] at HRE
      go_wp2_with fail
      go_ret
      exact ⟨po, rfl, by rw [HPO.out]; exact HRE, HX.out⟩
end Go.Proofs.Ytagfgkcipomopaa
