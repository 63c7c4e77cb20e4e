import Derived.Test.YtagfgkcipomopaaW1
import Derived.Test.YtagfgkcipomopaaL1
namespace Go.Proofs.Ytagfgkcipomopaa
open Go.RowKit Go.Sort

theorem stood34 : Try.prog.stoodInHeld 34 = false := by kernel_rfl
theorem und34 : Try.prog.underlying 34 = some (.struct (Try.prog.fieldsOf 34)) := by kernel_rfl
theorem eqAd (w : World) (a b : Ad) : (Op.equal 34 (adV a) (adV b)).run Try.prog w = .ok (decide (a = b)) w := by
  obtain ⟨a1, a2⟩ := a
  obtain ⟨b1, b2⟩ := b
  have h := run_equalIn_struct (P := Try.prog) w 9999 34 #[.int .i64 a1, .int .i64 a2] #[.int .i64 b1, .int .i64 b2] und34 stood34
  simp only [Op.equal, Op.maxDepth, adV]
  rw [show (10000 : Nat) = 9999 + 1 from rfl, h]
  simp only [Program.fieldsOf, Try.underlying34]
  go_simp
  by_cases h1 : a1 = b1 <;> by_cases h2 : a2 = b2 <;> simp [h1, h2]
theorem checkAd (w : World) (em : Bool) (a : Ad) : (Instr.checkKey em 10000 34 (adV a)).run Try.prog w = .ok () w := by
  rw [show (10000 : Nat) = 9998 + 1 + 1 from rfl, Instr.checkKey]
  simp only [adV, Sem.run_bind, run_underlying Try.underlying34, Result.andThen_ok]
  go_simp
  have h3 : ∀ n W, (Instr.checkKey em 9999 3 (Value.int IntKind.i64 n)).run Try.prog W = .ok () W := fun n W => MapKept.run_checkKey (P := Try.prog) (w := W) Try.underlying3 (by simp [MapKept.IsKey]) em 9998
  simp only [h3, Result.andThen_ok]
theorem adrKey : AdrKey Try.prog 34 := ⟨⟨_, Try.underlying34⟩, checkAd, eqAd⟩
theorem zero42 (w : World) : (zeroValue 42).run Try.prog w = .ok (.slice none 0 0) w := by kernel_rfl
theorem zero3 (w : World) : (zeroValue 3).run Try.prog w = .ok (.int .i64 0) w := by kernel_rfl

theorem retB {a b : Bool} (h : a = b) : Ending.returned (.bool a) = .returned (.bool b) := by rw [h]
theorem retI {k : IntKind} {a b : Int} (h : a = b) : Ending.returned (.int k a) = .returned (.int k b) := by rw [h]
/-! ### Links.on -/
def inA (x : Ar) (b : Ad) : Bool := inB x.1.1 x.1.2 x.2.1 x.2.2 b.1 b.2
def onV (l : List Ar) (b : Ad) : Bool := l.any fun x => inA x b
theorem take_any {α : Type} {l : List α} {f : α → Bool} {k : Nat} {x : α} (hx : l[k]? = some x) (h : (l.take k).any f = false) (hf : f x = false) : (l.take (k + 1)).any f = false := by
  rw [List.take_add_one, hx]; simp [hf] at *; exact h
theorem any_at {α : Type} {l : List α} {f : α → Bool} {k : Nat} {x : α} (hx : l[k]? = some x) (hf : f x = true) : l.any f = true :=
  List.any_eq_true.2 ⟨x, List.mem_of_getElem? hx, hf⟩
set_option maxHeartbeats 400000 in
theorem on_any (pb bm : Nat) (E : List (Ad × Value)) (a b : Ad) (l : List Ar) (w : World) (hpb : w.cell? ⟨pb, 0, none⟩ = some (.map (some bm))) (hm : MapIs w bm E)
    (hl : SlOf w arC 4 ((lk a E).getD (.slice none 0 0)) l) :
    Calls Try.prog 40 #[.pointer (some ⟨pb, 0, none⟩), .agg #[.int .i64 a.1, .int .i64 a.2], .agg #[.int .i64 b.1, .int .i64 b.2]] w fun e w' => e = .returned (.bool (onV l b)) ∧ Gr w w' := by
  have hpb' : pb < w.heap.size := World.block_lt_of_cell? w _ hpb
  have hbm' := hm.lt
  obtain ⟨w0, hw0, hb0, hs0, c0, c1, c2, c3⟩ := box2 w a.1 a.2 b.1 b.2 34 34
  have hg0 : Gr w w0 := by rw [← hw0]; exact ((Gr.refl _).alloc _).alloc _
  have hm0 : MapIs w0 bm E := hm.of_heap (hb0.block _ hbm')
  have hpb0 : w0.cell? ⟨pb, 0, none⟩ = some (.map (some bm)) := (hb0.cell (p := ⟨pb, 0, none⟩) hpb').trans hpb
  have hlk : ∀ n : Nat, (Instr.lookup 74 (.map (some bm)) (.agg #[.int .i64 a.1, .int .i64 a.2]) false).run Try.prog (w0.drewN n) = .ok ((lk a E).getD (.slice none 0 0)) (w0.drewN n) := fun n =>
    hm0.lookup (w := w0.drewN n) adrKey Try.underlying74 zero42 a
  obtain ⟨sa, cap, hv, q1, q2, hc⟩ := hl
  rw [hv] at hlk
  clear hv hpb hm hm0
  go_enter Try.func40, Try.ntmps40
  go_wp2_with fail
  clear hw0
  go_quiet (fail)
  go_wp2_with fail
  go_loopw [16] (fun i wr => ∃ k : Nat, k ≤ l.length ∧ i = .int .i64 k ∧ Hid ((l.take k).any (fun x => inA x b) = false) ∧ Gr w0 wr) (fun i _ => l.length - (intOf i).toNat)
  case atStart => exact ⟨0, Nat.zero_le _, rfl, (by unfold Hid; simp), (Gr.refl _).drewN _⟩
  case round =>
    obtain ⟨k, hk, rfl, HK, hg⟩ := hrel
    by_cases hlt : k < l.length
    · obtain ⟨b', off, rfl, hcc⟩ := hc (by intro h; simp [h] at hlt)
      obtain ⟨x, hx⟩ : ∃ x, l[k]? = some x := ⟨l[k], by simp [hlt]⟩
      obtain ⟨hgc, hgf⟩ := hg.xt.cells
      have hgz := hg.xt.sz
      obtain ⟨d0, d1, d2, d3⟩ := ar_cells (hcc k x hx)
      have hb' : b' < w.heap.size := World.block_lt_of_cell? w _ d0
      have e : ∀ o, wr.cell? ⟨b', o, none⟩ = w.cell? ⟨b', o, none⟩ := fun o => (hgc b' o (by omega)).trans (hb0.cell (p := ⟨b', o, none⟩) hb')
      rw [← e] at d0 d1 d2 d3
      rw [← hgc _ _ (by omega)] at c2 c3
      have z1 : w.heap.size + 1 < wr.heap.size := by omega
      have z2 : b' < wr.heap.size := by omega
      clear hlk hc hcc e hgc hgf hgz hb' c0 c1 hpb0 hs0
      cases hin : inA x b
      · go_wp2_with fail
        refine (in_any _ _ _ _ _ _ _).mono ?_
        rintro e w1 ⟨rfl, hg1⟩
        rw [show inB x.1.1 x.1.2 x.2.1 x.2.2 b.1 b.2 = false from hin]
        go_wp2_with fail
        go_roundw
        case rel => exact ⟨k + 1, by omega, by go_num, (take_any hx HK.out hin), Gr.trans (hg.alloc _) hg1⟩
        case measure => simp [intOf]; omega
      · go_wp2_with fail
        refine (in_any _ _ _ _ _ _ _).mono ?_
        rintro e w1 ⟨rfl, hg1⟩
        rw [show inB x.1.1 x.1.2 x.2.1 x.2.2 b.1 b.2 = true from hin]
        go_wp2_with fail
        go_ret
        exact ⟨retB (show true = onV l b from (any_at hx hin).symm), Gr.trans (Gr.trans hg0 (hg.alloc _)) hg1⟩
    · go_wp2_with fail
      go_ret
      have hkl : k = l.length := by omega
      exact ⟨retB (show false = onV l b by have := HK.out; rw [hkl, List.take_length] at this; exact this.symm), Gr.trans hg0 hg⟩
end Go.Proofs.Ytagfgkcipomopaa
