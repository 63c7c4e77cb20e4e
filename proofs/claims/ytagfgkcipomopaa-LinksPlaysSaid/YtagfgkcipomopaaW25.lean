import Derived.Test.YtagfgkcipomopaaL15
import Derived.Test.YtagfgkcipomopaaW23
namespace Go.Proofs.Ytagfgkcipomopaa
open Go.RowKit Go.Sort

/-! ### the document's New, Set -/
theorem info49 : (Try.prog.info? 49).map (fun i => (i.zero, i.size, i.bytes)) = some (some (.agg #[.int .i64 0, .int .i64 0, .slice none 0 0]), 3, 40) := by kernel_rfl
def RNewR (w : World) (e : Ending) (w' : World) : Prop := e = .returned (.pointer (some ⟨w.heap.size, 0, none⟩)) ∧ Ref w' w.heap.size (fun b => w.heap.size ≤ b ∧ b < w'.heap.size) [] ∧ Gr w w'
set_option maxRecDepth 100000 in
theorem rnew_any (w : World) : Calls Try.prog 20 #[] w (RNewR w) := by
  go_enter Try.func20, Try.ntmps20
  go_wp2
  go_ret
  refine ⟨rfl, ⟨.slice none 0 0, [], by simp, by unfold World.frozen?; rw [show (w.alloc (Obj.cells #[Value.slice none 0 0] 64)).heap[w.heap.size]? = some (Obj.cells #[Value.slice none 0 0] 64) from (MapKept.heap_alloc w _).1]; simp, ⟨Nat.le_refl _, by simp⟩, World.ownsRow_nil _ _ _ _, (fun g h => by cases h), ⟨rfl, fun i x y h => by simp at h⟩, List.Pairwise.nil, by simp, fun x hx => by cases hx⟩, (Gr.refl _).alloc _⟩
def RSetR (w : World) (px : Nat) (F : Nat → Prop) (M : Mp) (a : Ad) (u : List Ar) (e : Ending) (w' : World) : Prop :=
  e = .returned (.int .i64 (setErr M a u)) ∧ Ref w' px (fun b => F b ∨ (w.heap.size ≤ b ∧ b < w'.heap.size)) (setTo M a u) ∧ Chg F w w'
theorem rsetR_no {w w' : World} {px : Nat} {F : Nat → Prop} {M : Mp} {a : Ad} {u : List Ar} {n : Int} (h : Ref w px F M) (hF : ∀ b, F b → b < w.heap.size) (hn : setErr M a u = n) (h0 : n ≠ 0) (hx : Xt w w') : RSetR w px F M a u (.returned (.int .i64 n)) w' := by
  refine ⟨by rw [hn], ?_, hx.chg⟩
  have : setTo M a u = M := by unfold setTo; rw [hn, if_neg h0]
  rw [this]
  exact h.keep (fun b hb => RowKit.Below.block hx b (hF b hb)) (fun b hb => Or.inl hb) hx.sz
/-- Where the rule is to be laid. -/
structure RPlace (wS w : World) (px : Nat) (F : Nat → Prop) (g cap N k : Nat) (L2 : List (Ad × SV)) (M : Mp) (a : Ad) (u : List Ar) : Prop where
  row : RowL wS g 49 cap 3 rlC L2
  len : L2.length = N
  lt : k < N
  capm : cap ≤ maxLen
  n4 : N ≤ 4096
  pxc : wS.cell? ⟨px, 0, none⟩ = some (.slice (some ⟨g, 0, none⟩) N cap)
  fro : wS.frozen? ⟨px, 0, none⟩ = false
  gF : (F g ∨ (w.heap.size ≤ g)) ∧ g ≠ px
  chg : Chg F w wS
  inP : F px ∧ px < w.heap.size
  each : ∀ (s : SV) (w' : World), Xt wS w' → SlOf w' arC 4 (slV s) (normL u) → (∀ b : Addr, s.1 = some b → wS.heap.size ≤ b.block ∧ b.block < w'.heap.size) → EachR w' (fun b => F b ∨ (w.heap.size ≤ b ∧ b < w'.heap.size)) px (some g) (L2.set k (a, s)) (setTo M a u)
  sorted : SortedM (setTo M a u)
  many : (setTo M a u).length = N
  few : ∀ x ∈ setTo M a u, x.2.length ≤ 256
  err : setErr M a u = 0
/-- What Sorted leaves, ahead of the store. -/
def SortS (wS : World) (px g k bx : Nat) (N cap : Nat) (a : Ad) (z : Ad × SV) (u : List Ar) (e : Ending) (w4 : World) : Prop :=
  ∃ s : SV, e = .returned (.slice s.1 s.2.1 s.2.2) ∧ w4.cell? ⟨px, 0, none⟩ = some (.slice (some ⟨g, 0, none⟩) N cap) ∧ w4.cell? ⟨bx, 0, none⟩ = some (.int .i64 a.1) ∧ w4.cell? ⟨bx, 1, none⟩ = some (.int .i64 a.2) ∧
    w4.cell? ⟨g, k * 3, none⟩ = some (.int .i64 z.1.1) ∧ w4.cell? ⟨g, k * 3 + 1, none⟩ = some (.int .i64 z.1.2) ∧ w4.cell? ⟨g, k * 3 + 2, none⟩ = some (slV z.2) ∧
    w4.frozen? ⟨g, k * 3, none⟩ = false ∧ w4.frozen? ⟨g, k * 3 + 1, none⟩ = false ∧ w4.frozen? ⟨g, k * 3 + 2, none⟩ = false ∧
    Hid (Xt wS w4 ∧ SlOf w4 arC 4 (slV s) (normL u) ∧ ∀ b : Addr, s.1 = some b → wS.heap.size ≤ b.block ∧ b.block < w4.heap.size)
theorem sort_for {wS w : World} {px : Nat} {F : Nat → Prop} {g cap N k bx : Nat} {L2 : List (Ad × SV)} {M : Mp} {a : Ad} {u : List Ar} {v : Value} {z : Ad × SV} (hp : RPlace wS w px F g cap N k L2 M a u) (hu : SlOf wS arC 4 v u) (hul : u.length ≤ 4096) (hz : L2[k]? = some z)
    (b0 : wS.cell? ⟨bx, 0, none⟩ = some (.int .i64 a.1)) (b1 : wS.cell? ⟨bx, 1, none⟩ = some (.int .i64 a.2)) : Calls Try.prog 50 #[v] wS.drew (SortS wS px g k bx N cap a z u) := by
  refine (sorted50_any v u wS.drew (hu.xt (Xt.refl _).drew) hul).mono ?_
  rintro e w4 ⟨v', rfl, hown, hx⟩
  have hx' : Xt wS w4 := xt_drew hx
  obtain ⟨sa, sc, hv, _⟩ := hown.sl arC_len
  have hc := (hx'.cells).1
  have hf := (hx'.cells).2
  have hpx : px < wS.heap.size := World.block_lt_of_cell? wS _ hp.pxc
  have z0 := hp.row.cell hz 0 _ rfl
  have z1 := hp.row.cell hz 1 _ rfl
  have z2 := hp.row.cell hz 2 _ rfl
  have hg : g < wS.heap.size := World.block_lt_of_cell? wS _ z0
  have hbx : bx < wS.heap.size := World.block_lt_of_cell? wS _ b0
  refine ⟨(sa, (normL u).length, sc), by rw [hv], (hc _ _ hpx).trans hp.pxc, (hc _ _ hbx).trans b0, (hc _ _ hbx).trans b1, (hc _ _ hg).trans z0, (hc _ _ hg).trans z1, (hc _ _ hg).trans z2, (hf _ _ hg).trans (hp.row.froz _), (hf _ _ hg).trans (hp.row.froz _), (hf _ _ hg).trans (hp.row.froz _), hx', ?_, ?_⟩
  · have := hown.sl arC_len
    rw [hv] at this
    exact this
  · intro b hb
    have hob : v'.ownBlock = some b.block := by
      rw [hv]
      show Value.ownBlock (.slice sa _ _) = _
      simp only at hb
      rw [hb]; rfl
    have := World.ownsRow.lt hown _ hob
    exact ⟨this.1, this.2⟩
theorem set_laid {wS w w4 : World} {px : Nat} {F : Nat → Prop} {g cap N k : Nat} {L2 : List (Ad × SV)} {M : Mp} {a : Ad} {u : List Ar} {s : SV} (hp : RPlace wS w px F g cap N k L2 M a u) (H : Hid (Xt wS w4 ∧ SlOf w4 arC 4 (slV s) (normL u) ∧ ∀ b : Addr, s.1 = some b → wS.heap.size ≤ b.block ∧ b.block < w4.heap.size)) :
    RSetR w px F M a u (.returned (.int .i64 0)) (w4.setCells g (k * 3) (rlC (a, s))) := by
  obtain ⟨hx, hs, hb⟩ := H.out
  obtain ⟨z, hz⟩ : ∃ z, L2[k]? = some z := ⟨L2[k]'(by rw [hp.len]; exact hp.lt), by simp⟩
  have hgS : g < wS.heap.size := World.block_lt_of_cell? wS _ (hp.row.cell hz 0 _ rfl)
  have hpS : px < wS.heap.size := World.block_lt_of_cell? wS _ hp.pxc
  have hrow4 : RowL w4 g 49 cap 3 rlC L2 := hp.row.of_heap (RowKit.Below.block hx g hgS)
  have hrow := hrow4.set rlC_len (j := k) (by rw [hp.len]; exact hp.lt) (a, s)
  have hgr := setCells_grown g (rlC (a, s)) (k * 3) w4
  have hpx : (w4.setCells g (k * 3) (rlC (a, s))).heap[px]? = wS.heap[px]? := (hgr.block px (by have := hx.sz; omega) (fun e => by cases e; exact hp.gF.2 rfl)).trans (RowKit.Below.block hx px hpS)
  have hown := hrow.own rlC_len hp.capm (Nat.zero_le g) N (by rw [List.length_set, hp.len]; exact Nat.le_refl _)
  rw [List.take_of_length_le (by rw [List.length_set, hp.len]; exact Nat.le_refl _)] at hown
  have hsz : (w4.setCells g (k * 3) (rlC (a, s))).heap.size = w4.heap.size := by simp [World.setCells, rlC]
  have hsS := hp.chg.size
  have hs4 := hx.sz
  refine ⟨by rw [hp.err], ⟨.slice (some ⟨g, 0, none⟩) N cap, L2.set k (a, s), (World.cell?_of_block (w := wS) (a := ⟨px, 0, none⟩) hpx).trans hp.pxc, ?_, Or.inl hp.inP.1, hown, ?_, ?_, hp.sorted, by rw [hp.many]; exact hp.n4, hp.few⟩, ?_⟩
  · have := hp.fro
    unfold World.frozen? at this ⊢
    rw [hpx]; exact this
  · intro g' hg'
    cases hg'
    refine ⟨?_, hp.gF.2⟩
    rcases hp.gF.1 with h | h
    · exact Or.inl h
    · exact Or.inr ⟨h, by rw [hsz]; show g < _; omega⟩
  · have := hp.each s w4 hx hs hb
    refine this.keep (fun b _ hb2 _ hg => hgr.block b hb2 (fun e => hg e.symm)) (fun b hb => ?_) (by rw [hsz]; exact Nat.le_refl _)
    rcases hb with hb | hb
    · exact Or.inl hb
    · exact Or.inr ⟨hb.1, by rw [hsz]; exact hb.2⟩
  · refine chg_grown (chg_grown hp.chg (hx.grown none) (fun g h => by cases h)) hgr (fun g' h => by cases h; exact hp.gF.1.symm)
end Go.Proofs.Ytagfgkcipomopaa
