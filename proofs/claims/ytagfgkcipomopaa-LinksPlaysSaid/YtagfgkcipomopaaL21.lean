import Derived.Test.YtagfgkcipomopaaW41
namespace Go.Proofs.Ytagfgkcipomopaa
open Go.RowKit Go.Sort

/-! ### the document's Ready: what it is reckoned from -/
theorem validB_iff {c r : Int} : validB c r = true ↔ (1 ≤ c ∧ c ≤ 256) ∧ 1 ≤ r ∧ r ≤ 4096 := by
  unfold validB
  simp only [Bool.and_eq_true, decide_eq_true_eq, and_assoc]
/-- There are no more cells than that. -/
theorem setA_few {l : List Ad} (h : (l.all fun a => validB a.1 a.2) = true) : (setA l).length ≤ 1048576 := by
  have hn := setA_nodup l
  have := nodup_len (c := setA l) (S := (List.range 1048576).map fun k => (((k % 256 : Nat) : Int) + 1, ((k / 256 : Nat) : Int) + 1)) hn (fun x hx => by
    have hv := validB_iff.1 (List.all_eq_true.1 h x ((setA_mem l x).1 hx))
    obtain ⟨⟨h1, h2⟩, h3, h4⟩ := hv
    refine List.mem_map.2 ⟨(x.2 - 1).toNat * 256 + (x.1 - 1).toNat, List.mem_range.2 (by omega), Prod.ext ?_ ?_⟩
    · show (((((x.2 - 1).toNat * 256 + (x.1 - 1).toNat) % 256 : Nat) : Int) + 1) = x.1
      omega
    · show (((((x.2 - 1).toNat * 256 + (x.1 - 1).toNat) / 256 : Nat) : Int) + 1) = x.2
      omega)
  rw [List.length_map, List.length_range] at this
  exact this
theorem all_take {α : Type} {l : List α} {f : α → Bool} (h : l.all f = true) (k : Nat) : (l.take k).all f = true :=
  List.all_eq_true.2 fun x hx => List.all_eq_true.1 h x (List.mem_of_mem_take hx)
theorem sortD_few {l : List Ad} (h : (l.all fun a => validB a.1 a.2) = true) (k : Nat) : (sortD adLt (l.take k)).length ≤ 1048576 := by
  rw [sortD_ad]; exact setA_few (all_take h k)
theorem usesR_lk {M : Mp} (hv : VM M) (a b : Ad) : usesR ((lkM a M).getD []) b = onM M a b := by
  unfold onM
  refine uses_on fun r hr => ?_
  cases h : lkM a M with
  | none => rw [h] at hr; simp at hr
  | some l => rw [h] at hr; exact hv _ (lkM_mem h) r hr
theorem free_all (M : Mp) (A : List Ad) (a : Ad) : freeM M A a = A.all fun b => !onM M a b := by
  rw [Bool.eq_iff_iff, freeM_iff, List.all_eq_true]
  simp
theorem free_take {M : Mp} {A : List Ad} {a : Ad} {k : Nat} {f : Bool} (hf : f = (A.take k).all fun b => !onM M a b) (h : k = A.length ∨ f = false) : f = freeM M A a := by
  rw [free_all]
  rcases h with rfl | rfl
  · rw [hf, List.take_length]
  · symm
    rw [Bool.eq_false_iff]
    intro h
    exact (Bool.eq_false_iff.1 hf.symm (all_take h k)).elim
theorem pick_ref {p m : Int} (hm : 0 < m) (hm2 : m ≤ 8796093022208) : (p.tmod m < 0 ∧ ∃ K : Nat, wrap64 (p.tmod m + m) = (K : Int) ∧ (K : Int) < m ∧ (p.tmod m + m).tmod m = (K : Int)) ∨ (¬ p.tmod m < 0 ∧ ∃ K : Nat, p.tmod m = (K : Int) ∧ (K : Int) < m ∧ (p.tmod m + m).tmod m = (K : Int)) := by
  have h1 : p.tmod m < m := Int.tmod_lt_of_pos p hm
  have h2 : -m < p.tmod m := by
    have h := Int.tmod_lt_of_pos (-p) hm
    rw [Int.neg_tmod] at h; omega
  generalize p.tmod m = q at h1 h2 ⊢
  by_cases hq : q < 0
  · refine Or.inl ⟨hq, (q + m).toNat, by unfold wrap64; omega, by omega, ?_⟩
    rw [Int.tmod_eq_emod_of_nonneg (by omega), Int.emod_eq_of_lt (by omega) (by omega)]; omega
  · refine Or.inr ⟨hq, q.toNat, by omega, by omega, ?_⟩
    rw [Int.tmod_eq_emod_of_nonneg (by omega), Int.add_emod_right, Int.emod_eq_of_lt (by omega) (by omega)]; omega
/-! ### the rules that are left, in memory -/
def EachU (w : World) (R : List (Ad × SV)) (M : Mp) : Prop := ∀ r ∈ R, SlOf w arC 4 (slV r.2) ((lkM r.1 M).getD [])
structure LfIs (w wr : World) (M : Mp) (v : Value) (A : List Ad) (R : List (Ad × SV)) : Prop where
  keys : R.map (·.1) = A
  each : EachU w R M
  own : OwnL wr w.heap.size 49 3 rlC v R
theorem LfIs.len {w wr : World} {M : Mp} {v : Value} {A : List Ad} {R : List (Ad × SV)} (h : LfIs w wr M v A R) : R.length = A.length := by rw [← h.keys, List.length_map]
theorem LfIs.xt {w wr w' : World} {M : Mp} {v : Value} {A : List Ad} {R : List (Ad × SV)} (h : LfIs w wr M v A R) (hx : Xt wr w') : LfIs w w' M v A R := ⟨h.keys, h.each, h.own.xt hx⟩
theorem LfIs.at {w wr : World} {M : Mp} {v : Value} {A : List Ad} {R : List (Ad × SV)} (h : LfIs w wr M v A R) {i : Nat} {r : Ad × SV} (hr : R[i]? = some r) : A[i]? = some r.1 := by rw [← h.keys, List.getElem?_map, hr]; rfl
theorem EachU.ins {w : World} {R : List (Ad × SV)} {M : Mp} (h : EachU w R M) (k : Nat) {a : Ad} {s : SV} (hs : SlOf w arC 4 (slV s) ((lkM a M).getD [])) : EachU w (R.take k ++ (a, s) :: R.drop k) M := by
  intro r hr
  rcases List.mem_append.1 hr with hr | hr
  · exact h r (List.mem_of_mem_take hr)
  · rcases List.mem_cons.1 hr with rfl | hr
    · exact hs
    · exact h r (List.mem_of_mem_drop hr)
theorem EachU.erase {w : World} {R : List (Ad × SV)} {M : Mp} (h : EachU w R M) (i : Nat) : EachU w (R.eraseIdx i) M := fun r hr => h r (List.mem_of_mem_eraseIdx hr)
theorem keys_ins (R : List (Ad × SV)) (k : Nat) (a : Ad) (s : SV) : (R.take k ++ (a, s) :: R.drop k).map (·.1) = (R.map (·.1)).take k ++ a :: (R.map (·.1)).drop k := by
  rw [List.map_append, List.map_cons, List.map_take, List.map_drop]
theorem keys_erase (R : List (Ad × SV)) (i : Nat) : (R.eraseIdx i).map (·.1) = (R.map (·.1)).eraseIdx i := by
  rw [List.eraseIdx_eq_take_drop_succ, List.eraseIdx_eq_take_drop_succ, List.map_append, List.map_take, List.map_drop]
/-- What Uses leaves, ahead of the store. -/
def UsesS (w wS : World) (M : Mp) (g k bx ox : Nat) (x : Ad) (z : Ad × SV) (e : Ending) (w4 : World) : Prop :=
  ∃ s : SV, e = .returned (.slice s.1 s.2.1 s.2.2) ∧ w4.cell? ⟨bx, ox, none⟩ = some (.int .i64 x.1) ∧ w4.cell? ⟨bx, ox + 1, none⟩ = some (.int .i64 x.2) ∧
    w4.cell? ⟨g, k * 3, none⟩ = some (.int .i64 z.1.1) ∧ w4.cell? ⟨g, k * 3 + 1, none⟩ = some (.int .i64 z.1.2) ∧ w4.cell? ⟨g, k * 3 + 2, none⟩ = some (slV z.2) ∧
    w4.frozen? ⟨g, k * 3, none⟩ = false ∧ w4.frozen? ⟨g, k * 3 + 1, none⟩ = false ∧ w4.frozen? ⟨g, k * 3 + 2, none⟩ = false ∧
    Hid (Xt wS w4 ∧ SlOf w arC 4 (slV s) ((lkM x M).getD []))
theorem uses_for {w wS : World} {px : Nat} {v : Value} {M : Mp} {g cap k bx ox : Nat} {L2 : List (Ad × SV)} {x : Ad} {z : Ad × SV} (hp : w.cell? ⟨px, 0, none⟩ = some v) (hR : RulesOf w v M) (hs : SortedM M) (hm : M.length ≤ 4096) (hx : Xt w wS) (hrow : RowL wS g 49 cap 3 rlC L2) (hz : L2[k]? = some z)
    (b0 : wS.cell? ⟨bx, ox, none⟩ = some (.int .i64 x.1)) (b1 : wS.cell? ⟨bx, ox + 1, none⟩ = some (.int .i64 x.2)) : Calls Try.prog 56 #[.pointer (some ⟨px, 0, none⟩), .agg #[.int .i64 x.1, .int .i64 x.2]] wS.drew (UsesS w wS M g k bx ox x z) := by
  refine (ruses56_old px v M x w wS.drew hp hR hs hm hx.drew).mono ?_
  rintro e w4 ⟨v', rfl, hsl, hg4⟩
  have hx' : Xt wS w4 := xt_drew hg4.xt
  have hc := (hx'.cells).1
  have hf := (hx'.cells).2
  have z0 := hrow.cell hz 0 _ rfl
  have z1 := hrow.cell hz 1 _ rfl
  have z2 := hrow.cell hz 2 _ rfl
  have hgl : g < wS.heap.size := World.block_lt_of_cell? wS _ z0
  have hbx : bx < wS.heap.size := World.block_lt_of_cell? wS _ b0
  obtain ⟨sa, sc, rfl, r1, r2, r3⟩ := hsl
  exact ⟨(sa, _, sc), rfl, (hc _ _ hbx).trans b0, (hc _ _ hbx).trans b1, (hc _ _ hgl).trans z0, (hc _ _ hgl).trans z1, (hc _ _ hgl).trans z2, (hf _ _ hgl).trans (hrow.froz _), (hf _ _ hgl).trans (hrow.froz _), (hf _ _ hgl).trans (hrow.froz _), hx', ⟨sa, sc, rfl, r1, r2, r3⟩⟩
end Go.Proofs.Ytagfgkcipomopaa
