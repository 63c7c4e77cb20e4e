import Derived.Test.YtfpdleljhbkehaaDoorD9
import Derived.Test.YtfpdleljhbkehaaDoorA2
/- A growing list of puts, each with its content's nodes in blocks of their own. -/
namespace Go.Proofs.YtfpdleljhbkehaaDoor
open Go.RowKit Go.Sort

/-! ### lists of puts (made by mkd13.py) -/
abbrev PutE := Ad × CE
def ceC (x : CE) : List Value := [.int .i64 x.1.kind, .int .i64 x.1.v.kind, .float .f64 x.1.v.x, .string x.1.v.s, .bool x.1.v.b, .int .i64 x.1.v.f, .int .i64 x.1.t.kind, .int .i64 x.1.t.op, .float .f64 x.1.t.x, .string x.1.t.s, .bool x.1.t.b, .int .i64 x.1.t.f, .int .i64 x.1.t.ref.a.1, .int .i64 x.1.t.ref.a.2, .bool x.1.t.ref.cf, .bool x.1.t.ref.rf, .int .i64 x.1.t.to.a.1, .int .i64 x.1.t.to.a.2, .bool x.1.t.to.cf, .bool x.1.t.to.rf, .slice x.2 x.1.t.args.length x.1.t.args.length]
def putC (x : PutE) : List Value := adC x.1 ++ ceC x.2
theorem ceC_len (x : CE) : (ceC x).length = 21 := rfl
theorem putC_len (x : PutE) : (putC x).length = 23 := rfl
theorem ceC_one (x : CE) : ∀ u ∈ ceC x, u.oneCell' = true := by
  intro u hu
  simp only [ceC, List.mem_cons, List.not_mem_nil, or_false] at hu
  rcases hu with h | h | h | h | h | h | h | h | h | h | h | h | h | h | h | h | h | h | h | h | h <;> subst h <;> rfl
theorem putC_one (x : PutE) : ∀ u ∈ putC x, u.oneCell' = true := by
  intro u hu
  rcases List.mem_append.1 hu with h | h
  · exact adC_one x.1 u h
  · exact ceC_one x.2 u h
theorem ceV_C (x : CE) : ceV x = .agg (ceC x).toArray := rfl
def okPut (S : Nat → Prop) (w : World) (x : PutE) : Prop := smallT x.2.1.t ∧ ∃ n, ArgsS S w n (.slice x.2.2 x.2.1.t.args.length x.2.1.t.args.length) x.2.1.t.args
theorem okPut.keep {S S' : Nat → Prop} {w w' : World} {x : PutE} (h : okPut S w x) (hS : ∀ b, S b → b < w.heap.size → S' b) (hk : ∀ b o, S b → b < w.heap.size → w'.cell? ⟨b, o, none⟩ = w.cell? ⟨b, o, none⟩) : okPut S' w' x :=
  ⟨h.1, let ⟨n, hn⟩ := h.2; ⟨n, hn.keep hS hk⟩⟩
theorem okPut.ce {S : Nat → Prop} {w : World} {x : PutE} (h : okPut S w x) : ceIn w x.2 := ⟨h.1, let ⟨n, hn⟩ := h.2; ⟨n, hn.args⟩⟩
structure PutsOwn (w : World) (base : Nat) (v : Value) (l : List PutE) : Prop where
  own : OwnL w base 47 23 putC v l
  args : ∀ x ∈ l, okPut (fun b => base ≤ b ∧ v.ownBlock ≠ some b) w x
theorem PutsOwn.nil (w : World) (base : Nat) : PutsOwn w base (.slice none 0 0) [] := ⟨World.ownsRow_nil _ _ _ _, fun x hx => by cases hx⟩
theorem PutsOwn.xt {w w' : World} {base : Nat} {v : Value} {l : List PutE} (h : PutsOwn w base v l) (hx : Xt w w') : PutsOwn w' base v l :=
  ⟨h.own.xt hx, fun x hx' => (h.args x hx').keep (fun _ hb _ => hb) (fun b o _ hl => (hx.cells).1 b o hl)⟩
theorem infoPut : (Tryd.prog.info? 47).map (fun i => (i.zero, i.size, i.bytes)) = some (some (.agg #[.int .i64 0, .int .i64 0, .int .i64 0, .int .i64 0, .float .f64 0, .string ⟨#[]⟩, .bool false, .int .i64 0, .int .i64 0, .int .i64 0, .float .f64 0, .string ⟨#[]⟩, .bool false, .int .i64 0, .int .i64 0, .int .i64 0, .bool false, .bool false, .int .i64 0, .int .i64 0, .bool false, .bool false, .slice none 0 0]), 23, 200) := by kernel_rfl
theorem putsOwn_push {wA : World} {base : Nat} {v : Value} {l : List PutE} (h : PutsOwn wA base v l) (hb : base ≤ wA.heap.size) (x : PutE) (ad : Addr) (hnews : ∀ (j : Nat) (u : Value), (putC x)[j]? = some u → wA.cell? (ad.add j) = some u) (hok : okPut (fun b => base ≤ b ∧ v.ownBlock ≠ some b) wA x) (hl : l.length ≤ 1048576) (ty : TypeId) :
    ∃ v' w', (Builtin.append_ #[44, 44] ty #[v, .slice (some ad) 1 1]).run Tryd.prog wA = .ok v' w' ∧ PutsOwn w' base v' (l ++ [x]) ∧ wA.grownBy w' v.ownBlock := by
  obtain ⟨i0, hi, hz0, hz1, hz2⟩ := info_parts infoPut
  have hbase0 : wA.ownsRow 0 47 23 v l.length (l.flatMap putC) := h.own.base (Nat.zero_le _)
  obtain ⟨v', w', hr, _, _, hwh⟩ := run_append_where (P := Tryd.prog) wA 44 ty 47 i0 _ 23 200 Tryd.underlying44 hi hz0 hz1 hz2 rfl (by decide) v l.length (l.flatMap putC) hbase0 ad 1 1 (putC x) rfl hnews (putC_one x) (by unfold maxLen; omega) (by omega)
  obtain ⟨v2, w2, hr2, hown2, hg2, _⟩ := run_append_own (P := Tryd.prog) wA base 44 ty 47 i0 _ 23 200 Tryd.underlying44 hi hz0 hz1 hz2 rfl (by decide) v l.length (l.flatMap putC) h.own ad 1 1 (putC x) rfl hnews (putC_one x) (by unfold maxLen; omega) (by omega) hb
  rw [hr] at hr2
  cases hr2
  have hS : ∀ b, b < wA.heap.size → (base ≤ b ∧ v.ownBlock ≠ some b) → (base ≤ b ∧ v'.ownBlock ≠ some b) := fun b hlt hb => ⟨hb.1, fun e => by
    rcases hwh with e' | e'
    · rw [e'] at e; exact hb.2 e
    · have := e' b e; omega⟩
  have hk : ∀ b o, (base ≤ b ∧ v.ownBlock ≠ some b) → b < wA.heap.size → w'.cell? ⟨b, o, none⟩ = wA.cell? ⟨b, o, none⟩ := fun b o hb hlt => World.cell?_of_block (w := wA) (a := ⟨b, o, none⟩) (hg2.block b hlt (fun e => hb.2 e.symm))
  refine ⟨v', w', hr, ⟨?_, fun y hy => ?_⟩, hg2⟩
  · have e : (l ++ [x]).flatMap putC = l.flatMap putC ++ putC x := by simp
    unfold OwnL
    rw [e, List.length_append]
    exact hown2
  · rcases List.mem_append.1 hy with h1 | h1
    · exact (h.args y h1).keep (fun b hb hlt => hS b hlt hb) hk
    · rw [List.mem_singleton.1 h1]
      exact hok.keep (fun b hb hlt => hS b hlt hb) hk
end Go.Proofs.YtfpdleljhbkehaaDoor
/- A slice of one's own, opened. -/
namespace Go.Proofs.YtfpdleljhbkehaaDoor
open Go.RowKit Go.Sort Go.Maps Go.Shelf

theorem OwnL.slice {α : Type} {w : World} {B : Nat} {T : TypeId} {k : Nat} {enc : α → List Value} {v : Value} {l : List α} (h : OwnL w B T k enc v l) {n : Nat} (hn : l.length = n) : ∃ a c, v = .slice a n c ∧ n ≤ c ∧ c ≤ 9223372036854775807 := by
  rcases h.2 with ⟨rfl, h0⟩ | ⟨g, cap, cur, rfl, _, _, h1, h2, _⟩
  · exact ⟨none, 0, by rw [← hn, h0], by omega, by omega⟩
  · exact ⟨_, cap, by rw [← hn], by omega, by simp only [maxLen] at h2; omega⟩
theorem keys_at {w : World} {B : Nat} {va : Option Addr} {n vc : Nat} {l : List Ad} (h : OwnL w B 26 2 adC (.slice va n vc) l) {i : Nat} {x : Ad} (hx : l[i]? = some x) : ∃ b off, va = some ⟨b, off, none⟩ ∧ w.cell? ⟨b, off + i * 2, none⟩ = some (.int .i64 x.1) ∧ w.cell? ⟨b, off + i * 2 + 1, none⟩ = some (.int .i64 x.2) := by
  obtain ⟨a, cap, e, _, _, hc⟩ := OwnL.sl h adC_len
  cases e
  obtain ⟨b, off, rfl, hcell⟩ := hc (by intro e; subst e; simp at hx)
  exact ⟨b, off, rfl, hcell i x hx 0 _ rfl, hcell i x hx 1 _ rfl⟩
end Go.Proofs.YtfpdleljhbkehaaDoor
