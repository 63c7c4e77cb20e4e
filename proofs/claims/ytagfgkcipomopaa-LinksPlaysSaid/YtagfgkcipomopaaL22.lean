import Derived.Test.YtagfgkcipomopaaW31
import Derived.Test.YtagfgkcipomopaaW40
import Derived.Test.YtagfgkcipomopaaL21
namespace Go.Proofs.Ytagfgkcipomopaa
open Go.RowKit Go.Sort

/-! ### links and the document's links of the same, as a pair -/
/-- Both hold the same; they lie in blocks of F alone. -/
structure Pr (w : World) (pb bm px : Nat) (F : Nat → Prop) (M : Mp) : Prop where
  two : ∃ F1 F2, Lk w pb bm F1 M ∧ Ref w px F2 M ∧ (∀ b, F1 b → F b ∧ ¬ F2 b) ∧ (∀ b, F2 b → F b)
  lt : ∀ b, F b → b < w.heap.size
  vm : VM M
theorem Pr.keep {w w' : World} {pb bm px : Nat} {F : Nat → Prop} {M : Mp} (h : Pr w pb bm px F M) (hk : ∀ b, F b → w'.heap[b]? = w.heap[b]?) (hs : w.heap.size ≤ w'.heap.size) : Pr w' pb bm px F M := by
  obtain ⟨F1, F2, h1, h2, h3, h4⟩ := h.two
  exact ⟨⟨F1, F2, h1.keep (fun b hb => hk b (h3 b hb).1) (fun _ h => h), h2.keep (fun b hb => hk b (h4 b hb)) (fun _ h => h) hs, h3, h4⟩, fun b hb => Nat.lt_of_lt_of_le (h.lt b hb) hs, h.vm⟩
theorem Pr.xt {w w' : World} {pb bm px : Nat} {F : Nat → Prop} {M : Mp} (h : Pr w pb bm px F M) (hx : Xt w w') : Pr w' pb bm px F M :=
  h.keep (fun b hb => RowKit.Below.block hx b (h.lt b hb)) hx.sz
theorem Pr.mono {w : World} {pb bm px : Nat} {F G : Nat → Prop} {M : Mp} (h : Pr w pb bm px F M) (hg : ∀ b, F b → G b) (hl : ∀ b, G b → b < w.heap.size) : Pr w pb bm px G M := by
  obtain ⟨F1, F2, h1, h2, h3, h4⟩ := h.two
  exact ⟨⟨F1, F2, h1, h2, fun b hb => ⟨hg b (h3 b hb).1, (h3 b hb).2⟩, fun b hb => hg b (h4 b hb)⟩, hl, h.vm⟩
theorem Pr.sorted {w : World} {pb bm px : Nat} {F : Nat → Prop} {M : Mp} (h : Pr w pb bm px F M) : SortedM M := by
  obtain ⟨F1, F2, h1, _⟩ := h.two
  obtain ⟨E, _, he⟩ := h1.map; exact he.sorted
/-- What a step leaves. -/
def StpR (w : World) (pb bm px : Nat) (F : Nat → Prop) (e : Ending) (w' : World) : Prop :=
  e = .returned (.bool true) ∧ ∃ (M' : Mp) (F' : Nat → Prop), Pr w' pb bm px F' M' ∧ (∀ b, F' b → F b ∨ (w.heap.size ≤ b ∧ b < w'.heap.size)) ∧ Chg F w w'
/-- Behind Set on both. -/
theorem pair_set {w3 w4 w5 : World} {pb bm px : Nat} {F F1 F2 : Nat → Prop} {M : Mp} {a : Ad} {u : List Ar} {e1 e2 : Ending} (hF1 : ∀ b, F1 b → F b ∧ ¬ F2 b) (hF2 : ∀ b, F2 b → F b) (hlt : ∀ b, F b → b < w3.heap.size) (hL : Lk w3 pb bm F1 M) (hv : VM M)
    (h1 : SetR w3 pb bm F1 M a u e1 w4) (h2 : RSetR w4 px F2 M a u e2 w5) :
    Pr w5 pb bm px (fun b => F b ∨ (w3.heap.size ≤ b ∧ b < w5.heap.size)) (setTo M a u) ∧ Chg F w3 w5 := by
  obtain ⟨_, hL4, hg⟩ := h1
  obtain ⟨_, hR, hc⟩ := h2
  have s1 := hg.size
  have s2 := hc.size
  refine ⟨⟨⟨fun b => F1 b ∨ (w3.heap.size ≤ b ∧ b < w4.heap.size), fun b => F2 b ∨ (w4.heap.size ≤ b ∧ b < w5.heap.size), lk_chg hL4 ?_ ?_ hc, hR, ?_, ?_⟩, ?_, hv.set a u⟩, ?_⟩
  · intro b hb; rcases hb with hb | hb
    · have := hlt b (hF1 b hb).1; omega
    · exact hb.2
  · intro b hb hf; rcases hb with hb | hb
    · exact (hF1 b hb).2 hf
    · have := hlt b (hF2 b hf); omega
  · intro b hb
    refine ⟨?_, fun hf => ?_⟩
    · rcases hb with hb | hb
      · exact Or.inl (hF1 b hb).1
      · exact Or.inr ⟨by omega, by omega⟩
    · rcases hb with hb | hb <;> rcases hf with hf | hf
      · exact (hF1 b hb).2 hf
      · have := hlt b (hF1 b hb).1; omega
      · have := hlt b (hF2 b hf); omega
      · omega
  · intro b hb; rcases hb with hb | hb
    · exact Or.inl (hF2 b hb)
    · exact Or.inr ⟨by omega, hb.2⟩
  · intro b hb; rcases hb with hb | hb
    · have := hlt b hb; omega
    · exact hb.2
  · have c1 : Chg F w3 w4 := chg_grown (Chg.refl F w3) hg (fun g h => by cases h; exact Or.inr (hF1 _ hL.inM).1)
    refine c1.trans ⟨hc.os, hc.tape, hc.output, hc.size, fun k hk hn => hc.block k hk (fun h => hn (hF2 k h))⟩
theorem pair_drop {w3 w4 w5 : World} {pb bm px : Nat} {F F1 F2 : Nat → Prop} {M : Mp} {a : Ad} {e1 e2 : Ending} (hF1 : ∀ b, F1 b → F b ∧ ¬ F2 b) (hF2 : ∀ b, F2 b → F b) (hlt : ∀ b, F b → b < w3.heap.size) (hL : Lk w3 pb bm F1 M) (hv : VM M)
    (h1 : DropR w3 pb bm F1 M a e1 w4) (h2 : RDropR w4 px F2 M a e2 w5) :
    Pr w5 pb bm px (fun b => F b ∨ (w3.heap.size ≤ b ∧ b < w5.heap.size)) (delM a M) ∧ Chg F w3 w5 := by
  obtain ⟨_, hL4, hg⟩ := h1
  obtain ⟨_, hR, hc⟩ := h2
  have s1 := hg.size
  have s2 := hc.size
  refine ⟨⟨⟨F1, fun b => F2 b ∨ (w4.heap.size ≤ b ∧ b < w5.heap.size), lk_chg hL4 ?_ ?_ hc, hR, ?_, ?_⟩, ?_, hv.del a⟩, ?_⟩
  · intro b hb; have := hlt b (hF1 b hb).1; omega
  · intro b hb hf; exact (hF1 b hb).2 hf
  · intro b hb
    refine ⟨Or.inl (hF1 b hb).1, fun hf => ?_⟩
    rcases hf with hf | hf
    · exact (hF1 b hb).2 hf
    · have := hlt b (hF1 b hb).1; omega
  · intro b hb; rcases hb with hb | hb
    · exact Or.inl (hF2 b hb)
    · exact Or.inr ⟨by omega, hb.2⟩
  · intro b hb; rcases hb with hb | hb
    · have := hlt b hb; omega
    · exact hb.2
  · have c1 : Chg F w3 w4 := chg_grown (Chg.refl F w3) hg (fun g h => by cases h; exact Or.inr (hF1 _ hL.inM).1)
    refine c1.trans ⟨hc.os, hc.tape, hc.output, hc.size, fun k hk hn => hc.block k hk (fun h => hn (hF2 k h))⟩
/-! ### a step of a script, in memory -/
structure OpS where
  kind : Int
  on : Int
  cell : Ad
  l : List Ad
  uses : List Ar
  picks : List Int
/-- The values that a step bears: its three lists. -/
structure OpV where
  lv : Value
  uv : Value
  pv : Value
structure OpIs (w : World) (o : OpS) (v : OpV) : Prop where
  l : SlOf w adC 2 v.lv o.l
  uses : SlOf w arC 4 v.uv o.uses
  picks : SlOf w inC 1 v.pv o.picks
  lfew : o.l.length ≤ 8796093021952
  ufew : o.uses.length ≤ 4398046510976
theorem OpIs.xt {w w' : World} {o : OpS} {v : OpV} (h : OpIs w o v) (hx : Xt w w') : OpIs w' o v := ⟨h.l.xt hx, h.uses.xt hx, h.picks.xt hx, h.lfew, h.ufew⟩
/-- Nothing of it lies in F. -/
structure OpOut (F : Nat → Prop) (o : OpS) (v : OpV) : Prop where
  l : o.l ≠ [] → slIn (fun b => ¬ F b) v.lv
  uses : o.uses ≠ [] → slIn (fun b => ¬ F b) v.uv
  picks : o.picks ≠ [] → slIn (fun b => ¬ F b) v.pv
def opV (o : OpS) (v : OpV) : Value := .agg #[.int .i64 o.kind, .int .i64 o.on, .int .i64 o.cell.1, .int .i64 o.cell.2, v.lv, v.uv, v.pv]
/-- A box for it. -/
theorem box7 (w : World) (a b c d : Int) (x y z : Value) (T : TypeId) : ∃ w0, w.alloc (.cells #[.int .i64 a, .int .i64 b, .int .i64 c, .int .i64 d, x, y, z] T) = w0 ∧ Xt w w0 ∧ w0.heap.size = w.heap.size + 1 ∧
    w0.cell? ⟨w.heap.size, 0, none⟩ = some (.int .i64 a) ∧ w0.cell? ⟨w.heap.size, 1, none⟩ = some (.int .i64 b) ∧ w0.cell? ⟨w.heap.size, 2, none⟩ = some (.int .i64 c) ∧ w0.cell? ⟨w.heap.size, 3, none⟩ = some (.int .i64 d) ∧
    w0.cell? ⟨w.heap.size, 4, none⟩ = some x ∧ w0.cell? ⟨w.heap.size, 5, none⟩ = some y ∧ w0.cell? ⟨w.heap.size, 6, none⟩ = some z := by
  refine ⟨_, rfl, (Xt.refl _).alloc _, by simp, ?_, ?_, ?_, ?_, ?_, ?_, ?_⟩ <;> simp
theorem rest17 (k n : Int) (hn : 0 < n) (hn2 : n ≤ 8796093022208) : ∃ K : Nat, (K : Int) < n ∧ ∀ w, Calls Try.prog 17 #[.int .i64 k, .int .i64 n] w fun e w' => e = .returned (.int .i64 K) ∧ w = w' := by
  obtain ⟨K, h1, h2, _⟩ := pick_pos (p := k) hn hn2
  refine ⟨K, h2, fun w => ?_⟩
  have hn0 : ¬ n = 0 := by omega
  have hn1 : (n == 0) = false := by rw [beq_eq_false_iff_ne]; exact hn0
  go_enter Try.func17, Try.ntmps17
  go_wp2
  go_ret
  exact ⟨rfl, rfl⟩
/-- Nothing that both lie in has turned. -/
theorem StpR.still {w w' : World} {pb bm px : Nat} {F : Nat → Prop} {M : Mp} (h : Pr w pb bm px F M) (hx : Xt w w') : StpR w pb bm px F (.returned (.bool true)) w' :=
  ⟨rfl, M, F, h.xt hx, fun _ hb => Or.inl hb, hx.chg⟩
theorem StpR.after {w w1 w' : World} {pb bm px : Nat} {F : Nat → Prop} {e : Ending} (hx : Xt w w1) (h : StpR w1 pb bm px F e w') : StpR w pb bm px F e w' := by
  obtain ⟨he, M', F', h1, h2, h3⟩ := h
  have := hx.sz
  exact ⟨he, M', F', h1, fun b hb => (h2 b hb).imp id (fun h => ⟨by omega, h.2⟩), hx.chg.trans h3⟩
theorem Pr.lk {w : World} {pb bm px : Nat} {F : Nat → Prop} {M : Mp} (h : Pr w pb bm px F M) : Lk w pb bm F M := by
  obtain ⟨F1, F2, h1, h2, h3, h4⟩ := h.two
  exact h1.keep (fun _ _ => rfl) (fun b hb => (h3 b hb).1)
theorem Pr.ref {w : World} {pb bm px : Nat} {F : Nat → Prop} {M : Mp} (h : Pr w pb bm px F M) : ∃ a cap, w.cell? ⟨px, 0, none⟩ = some (.slice a M.length cap) ∧ RulesOf w (.slice a M.length cap) M ∧ M.length ≤ 4096 := by
  obtain ⟨F1, F2, h1, ⟨v, R, hR⟩, h3, h4⟩ := h.two
  obtain ⟨a, cap, rfl, r⟩ := hR.rules
  exact ⟨a, cap, hR.cell, ⟨a, cap, rfl, r⟩, hR.many⟩
theorem circ_few (M : Mp) : (circleM M).1.length ≤ M.length := by
  cases h : (circleM M).2
  · rw [(circleM_no (fun a b hab => onM_key hab) h []).1]; simp
  · obtain ⟨h1, h2⟩ := circleM_yes (fun a b hab => onM_key hab) h
    have := nodup_len h1.nodup h2
    simpa using this
theorem readyS_few (M : Mp) (l : List Ad) (picks : List Int) : (readyS M l picks).2.length ≤ 1048576 := by
  unfold readyS
  by_cases hv : (l.all fun a => validB a.1 a.2) = false
  · rw [if_pos hv]; simp
  · rw [if_neg hv]
    have hv' : (l.all fun a => validB a.1 a.2) = true := by simpa using hv
    cases h : readyGo M picks (setA l).length (setA l) [] with
    | none => simp
    | some o =>
      obtain ⟨o', rfl, hp, _⟩ := readyGo_topo M picks _ _ _ _ h
      have h1 := hp.length_eq
      have h2 := setA_few hv'
      simp only [List.nil_append]; omega
theorem above_few (M : Mp) (l : List Ad) : (aboveM M l).length ≤ M.length := by
  unfold aboveM
  exact Nat.le_trans (List.length_filter_le ..) (by simp)
end Go.Proofs.Ytagfgkcipomopaa
