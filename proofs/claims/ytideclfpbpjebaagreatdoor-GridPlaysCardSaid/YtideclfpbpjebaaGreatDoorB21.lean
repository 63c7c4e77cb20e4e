import Derived.Test.YtideclfpbpjebaaGreatDoorB9
import Derived.Test.YtideclfpbpjebaaGreatDoorB15
import Derived.Test.YtideclfpbpjebaaGreatDoorB14
import Derived.Deep.Cut
namespace Go.Proofs.YtideclfpbpjebaaGreatDoor
section
open Go.RowKit Go.Sort

/-! ### lists of puts (made by mkd13.py) -/
abbrev PutE := Ad × CE
def ceC (x : CE) : List Value := [.int .i64 x.1.kind, .int .i64 x.1.v.kind, .float .f64 x.1.v.x, .string x.1.v.s, .bool x.1.v.b, .int .i64 x.1.v.f, .int .i64 x.1.t.kind, .int .i64 x.1.t.op, .float .f64 x.1.t.x, .string x.1.t.s, .bool x.1.t.b, .int .i64 x.1.t.f, .int .i64 x.1.t.ref.a.1, .int .i64 x.1.t.ref.a.2, .bool x.1.t.ref.cf, .bool x.1.t.ref.rf, .int .i64 x.1.t.to.a.1, .int .i64 x.1.t.to.a.2, .bool x.1.t.to.cf, .bool x.1.t.to.rf, .slice x.2 x.1.t.args.length x.1.t.args.length]
def putC (x : PutE) : List Value := adC x.1 ++ ceC x.2
theorem putC_len (x : PutE) : (putC x).length = 23 := rfl
theorem ceC_one (x : CE) : ∀ u ∈ ceC x, u.oneCell' = true := by
  intro u hu
  simp only [ceC, List.mem_cons, List.not_mem_nil, or_false] at hu
  rcases hu with h | h | h | h | h | h | h | h | h | h | h | h | h | h | h | h | h | h | h | h | h <;> subst h <;> rfl
theorem putC_one (x : PutE) : ∀ u ∈ putC x, u.oneCell' = true := by
  intro u hu
  rcases List.mem_append.1 hu with h | h
  · exact adC_one x.1 u h
  · exact ceC_one x.2 u h
def okPut (S : Nat → Prop) (w : World) (x : PutE) : Prop := smallT x.2.1.t ∧ ∃ n, OwnIn S w n (.slice x.2.2 x.2.1.t.args.length x.2.1.t.args.length) x.2.1.t.args
theorem okPut.keep {S S' : Nat → Prop} {w w' : World} {x : PutE} (h : okPut S w x) (hS : ∀ b, S b → b < w.heap.size → S' b) (hk : ∀ b, S b → b < w.heap.size → w'.heap[b]? = w.heap[b]?) : okPut S' w' x :=
  ⟨h.1, let ⟨n, hn⟩ := h.2; ⟨n, hn.keep hS hk⟩⟩
/-- A growing list of puts; each put's nodes lie in a stretch of blocks of its own. -/
structure PutsOwn (w : World) (base : Nat) (v : Value) (l : List PutE) : Prop where
  own : OwnL w base 84 23 putC v l
  apart : ∃ t : Nat → Nat, (∀ i j, i ≤ j → t i ≤ t j) ∧ ∀ i x, l[i]? = some x → okPut (fun b => (t i ≤ b ∧ b < t (i + 1)) ∧ base ≤ b ∧ v.ownBlock ≠ some b) w x
theorem PutsOwn.args {w : World} {base : Nat} {v : Value} {l : List PutE} (h : PutsOwn w base v l) : ∀ x ∈ l, okPut (fun b => base ≤ b ∧ v.ownBlock ≠ some b) w x := fun x hx => by
  obtain ⟨t, _, ht⟩ := h.apart
  obtain ⟨i, hi⟩ := List.mem_iff_getElem?.1 hx
  exact (ht i x hi).keep (fun b hb _ => hb.2) (fun b _ _ => rfl)
theorem PutsOwn.nil (w : World) (base : Nat) : PutsOwn w base (.slice none 0 0) [] := ⟨World.ownsRow_nil _ _ _ _, ⟨fun _ => 0, fun _ _ _ => Nat.le_refl _, fun i x hx => by simp at hx⟩⟩
theorem PutsOwn.xt {w w' : World} {base : Nat} {v : Value} {l : List PutE} (h : PutsOwn w base v l) (hx : Xt w w') : PutsOwn w' base v l :=
  ⟨h.own.xt hx, let ⟨t, h1, h2⟩ := h.apart; ⟨t, h1, fun i x hi => (h2 i x hi).keep (fun _ hb _ => hb) (fun b _ hl => hx.block b hl)⟩⟩
theorem okPut.lt {S : Nat → Prop} {w : World} {x : PutE} (h : okPut S w x) : okPut (fun b => S b ∧ b < w.heap.size) w x :=
  ⟨h.1, let ⟨n, hn⟩ := h.2; ⟨n, hn.rows.keep (fun _ hb _ => ⟨hb.1, let ⟨_, hc⟩ := hb.2; (Array.getElem?_eq_some_iff.1 hc).1⟩) (fun _ _ _ => rfl)⟩⟩
theorem infoPut : (Tryz.prog.info? 84).map (fun i => (i.zero, i.size, i.bytes)) = some (some (.agg #[.int .i64 0, .int .i64 0, .int .i64 0, .int .i64 0, .float .f64 0, .string ⟨#[]⟩, .bool false, .int .i64 0, .int .i64 0, .int .i64 0, .float .f64 0, .string ⟨#[]⟩, .bool false, .int .i64 0, .int .i64 0, .int .i64 0, .bool false, .bool false, .int .i64 0, .int .i64 0, .bool false, .bool false, .slice none 0 0]), 23, 200) := by kernel_rfl
theorem putsOwn_push {wr wA : World} {base : Nat} {v : Value} {l : List PutE} (h0 : PutsOwn wr base v l) (hx0 : Xt wr wA) (hb : base ≤ wA.heap.size) (x : PutE) (ad : Addr) (hnews : ∀ (j : Nat) (u : Value), (putC x)[j]? = some u → wA.cell? (ad.add j) = some u) (hok : okPut (fun b => wr.heap.size ≤ b ∧ base ≤ b ∧ v.ownBlock ≠ some b) wA x) (hl : l.length ≤ 1048576) (ty : TypeId) :
    ∃ v' w', (Builtin.append_ #[29, 29] ty #[v, .slice (some ad) 1 1]).run Tryz.prog wA = .ok v' w' ∧ PutsOwn w' base v' (l ++ [x]) ∧ wA.grownBy w' v.ownBlock := by
  have h := h0.xt hx0
  obtain ⟨i0, hi, hz0, hz1, hz2⟩ := info_parts infoPut
  have hbase0 : wA.ownsRow 0 84 23 v l.length (l.flatMap putC) := h.own.base (Nat.zero_le _)
  obtain ⟨v', w', hr, _, _, hwh⟩ := run_append_where (P := Tryz.prog) wA 29 ty 84 i0 _ 23 200 Tryz.underlying29 hi hz0 hz1 hz2 rfl (by decide) v l.length (l.flatMap putC) hbase0 ad 1 1 (putC x) rfl hnews (putC_one x) (by unfold maxLen; omega) (by omega)
  obtain ⟨v2, w2, hr2, hown2, hg2, _⟩ := run_append_own (P := Tryz.prog) wA base 29 ty 84 i0 _ 23 200 Tryz.underlying29 hi hz0 hz1 hz2 rfl (by decide) v l.length (l.flatMap putC) h.own ad 1 1 (putC x) rfl hnews (putC_one x) (by unfold maxLen; omega) (by omega) hb
  rw [hr] at hr2
  cases hr2
  have hS : ∀ b, b < wA.heap.size → v.ownBlock ≠ some b → v'.ownBlock ≠ some b := fun b hlt hb e => by
    rcases hwh with e' | e'
    · rw [e'] at e; exact hb e
    · have := e' b e; omega
  have hk : ∀ b, v.ownBlock ≠ some b → b < wA.heap.size → w'.heap[b]? = wA.heap[b]? := fun b hb hlt => hg2.block b hlt (fun e => hb e.symm)
  refine ⟨v', w', hr, ⟨?_, ?_⟩, hg2⟩
  · have e : (l ++ [x]).flatMap putC = l.flatMap putC ++ putC x := by simp
    unfold OwnL
    rw [e, List.length_append]
    exact hown2
  · obtain ⟨t, ht1, ht2⟩ := h0.apart
    refine ⟨fun i => if i < l.length then min (t i) wr.heap.size else if i = l.length then wr.heap.size else wA.heap.size, fun i j hij => ?_, fun i y hy => ?_⟩
    · have h1 := ht1 i j hij
      have h2 := hx0.size
      dsimp only
      repeat' split
      all_goals omega
    · by_cases hi : i < l.length
      · rw [List.getElem?_append_left hi] at hy
        refine (((ht2 i y hy).lt).keep (S' := fun b => (((t i ≤ b ∧ b < t (i + 1)) ∧ base ≤ b ∧ v.ownBlock ≠ some b) ∧ b < wr.heap.size)) (fun b hb _ => hb) (fun b _ hlt => hx0.block b hlt)).keep (fun b hb hlt => ?_) (fun b hb hlt => hk b hb.1.2.2 hlt)
        obtain ⟨⟨⟨q1, q2⟩, q3, q4⟩, q5⟩ := hb
        refine ⟨⟨?_, ?_⟩, q3, hS b hlt q4⟩
        · dsimp only; rw [if_pos hi]; omega
        · dsimp only; repeat' split
          all_goals omega
      · have hil : i = l.length := by
          have := (List.getElem?_eq_some_iff.1 hy).1
          simp only [List.length_append, List.length_cons, List.length_nil] at this
          omega
        subst hil
        have hyx : y = x := by
          rw [List.getElem?_append_right (Nat.le_refl _), Nat.sub_self] at hy
          simpa using hy.symm
        rw [hyx]
        refine hok.lt.keep (fun b hb hlt => ?_) (fun b hb hlt => hk b hb.1.2.2 hlt)
        obtain ⟨⟨q1, q2, q3⟩, q4⟩ := hb
        refine ⟨⟨?_, ?_⟩, q2, hS b hlt q3⟩
        · dsimp only; rw [if_neg (Nat.lt_irrefl _), if_pos rfl]; exact q1
        · dsimp only; rw [if_neg (by omega), if_neg (by omega)]; exact q4
end
section
open Go.RowKit Go.Sort Go.Maps Go.Shelf

theorem OwnL.slice {α : Type} {w : World} {B : Nat} {T : TypeId} {k : Nat} {enc : α → List Value} {v : Value} {l : List α} (h : OwnL w B T k enc v l) {n : Nat} (hn : l.length = n) : ∃ a c, v = .slice a n c ∧ n ≤ c ∧ c ≤ 9223372036854775807 := by
  rcases h.2 with ⟨rfl, h0⟩ | ⟨g, cap, cur, rfl, _, _, h1, h2, _⟩
  · exact ⟨none, 0, by rw [← hn, h0], by omega, by omega⟩
  · exact ⟨_, cap, by rw [← hn], by omega, by simp only [maxLen] at h2; omega⟩
theorem keys_at {w : World} {B : Nat} {va : Option Addr} {n vc : Nat} {l : List Ad} (h : OwnL w B 36 2 adC (.slice va n vc) l) {i : Nat} {x : Ad} (hx : l[i]? = some x) : ∃ b off, va = some ⟨b, off, none⟩ ∧ w.cell? ⟨b, off + i * 2, none⟩ = some (.int .i64 x.1) ∧ w.cell? ⟨b, off + i * 2 + 1, none⟩ = some (.int .i64 x.2) := by
  obtain ⟨a, cap, e, _, _, hc⟩ := OwnL.sl h adC_len
  cases e
  obtain ⟨b, off, rfl, hcell⟩ := hc (by intro e; subst e; simp at hx)
  exact ⟨b, off, rfl, hcell i x hx 0 _ rfl, hcell i x hx 1 _ rfl⟩
end
section
open Go.RowKit Go.Sort

def Copy12Is (n : Nat) : Prop := ∀ (t : NodeT) (a : Option Addr) (cap : Nat) (w : World), smallT t → ArgsIn w n (.slice a t.args.length cap) t.args →
    Calls Tryz.prog 72 #[nodeV t a t.args.length cap] w fun e w' => ∃ a' c', e = .returned (nodeV (copyT t) a' (copyT t).args.length c') ∧ OwnIn (fun b => w.heap.size ≤ b) w' n (.slice a' (copyT t).args.length c') (copyT t).args ∧ Xt w w'
set_option maxRecDepth 100000 in
set_option maxHeartbeats 4000000 in
theorem copy12_any : ∀ n, Copy12Is n := by
  intro n
  induction n using Nat.strongRecOn with
  | ind n ih =>
    intro t a cap w hsm hin
    have IH := Lib.hid ih
    have HSM := Lib.hid hsm
    have HIN := Lib.hid hin
    obtain ⟨_, _, he, q1, q2⟩ := hin.shape
    cases he
    obtain ⟨w0, hw0, hg0, hs0, hN⟩ := boxN w t a t.args.length cap 44
    have HN := Lib.hid hN
    obtain ⟨c0, c1, c2, c3, c4, c5, c6, c7, c8, c9, c10, c11, c12, c13, c14⟩ := hN
    simp only [Nat.zero_add] at c0 c1 c2 c3 c4 c5 c6 c7 c8 c9 c10 c11 c12 c13 c14
    have HG0 := Lib.hid hg0
    have H1 := Lib.hid (one01_any t.x)
    generalize hox : oneX t.x = ox at H1
    have HOX := Lib.hid hox
    clear hox
    clear hg0 hin ih hsm
    go_enter Tryz.func72, Tryz.ntmps72
    go_wp2_with (refine (H1.out _).mono ?_; rintro e w' ⟨rfl, rfl⟩)
    obtain ⟨wZ, hwZ⟩ : ∃ wZ, w0.alloc (.cells #[.int .i64 0, .int .i64 0, .float .f64 0, .string ⟨#[]⟩, .bool false, .int .i64 0, .int .i64 0, .int .i64 0, .bool false, .bool false, .int .i64 0, .int .i64 0, .bool false, .bool false, .slice none 0 0] 44) = wZ := ⟨_, rfl⟩
    rw [hwZ]
    have hsZ : wZ.heap.size = w.heap.size + 1 + 1 := by rw [← hwZ]; simp [hs0]
    obtain ⟨wS, hwS⟩ : ∃ wS, wZ.alloc (.cells #[.int .i64 t.kind, .int .i64 t.op, .float .f64 ox, .string t.s, .bool t.b, .int .i64 t.f, .int .i64 t.ref.a.1, .int .i64 t.ref.a.2, .bool t.ref.cf, .bool t.ref.rf, .int .i64 t.to.a.1, .int .i64 t.to.a.2, .bool t.to.cf, .bool t.to.rf, .slice none 0 0] 44) = wS := ⟨_, rfl⟩
    rw [hwS]
    have hsS : wS.heap.size = w.heap.size + 1 + 1 + 1 := by rw [← hwS]; simp [hsZ]
    have hxZ : Xt w wZ := by rw [← hwZ]; exact HG0.out.xt.alloc _
    have hxS : Xt w wS := by rw [← hwS]; exact hxZ.alloc _
    have hrZ : wS.heap[w.heap.size + 1]? = some (.cells #[.int .i64 0, .int .i64 0, .float .f64 0, .string ⟨#[]⟩, .bool false, .int .i64 0, .int .i64 0, .int .i64 0, .bool false, .bool false, .int .i64 0, .int .i64 0, .bool false, .bool false, .slice none 0 0] 44 (0, 0)) := by
      rw [← hwS]
      refine (Below.heap_alloc wZ _ _ (by omega)).trans ?_
      rw [← hwZ, ← hs0]; exact (MapKept.heap_alloc w0 _).1
    have hNS : NodeAt wS w.heap.size 0 t a t.args.length cap := by
      rw [← hwS, ← hwZ]; exact (HN.out.xt ((Xt.refl w0).alloc _)).xt ((Xt.refl _).alloc _)
    have hOS : NodeAt wS (w.heap.size + 1 + 1) 0 (.mk t.kind t.op ox t.s t.b t.f t.ref t.to t.args) none 0 0 := by
      rw [← hwS, ← hsZ]
      refine ⟨?_, ?_, ?_, ?_, ?_, ?_, ?_, ?_, ?_, ?_, ?_, ?_, ?_, ?_, ?_⟩ <;> (rw [World.cell?_alloc_new]; rfl)
    have hfS : wS.frozen? ⟨w.heap.size + 1 + 1, 14, none⟩ = false := by rw [← hwS, ← hsZ]; simp
    have HST : Hid (GSt w wS (w.heap.size + 1 + 1) wS.heap.size copyT n (.mk t.kind t.op ox t.s t.b t.f t.ref t.to t.args) t.args wS 0 none 0 0) := grow_start copyT n t.args (by omega) (by omega) hOS hfS hxS
    have HNS := Lib.hid hNS
    have HRZ := Lib.hid hrZ
    clear hwS hwZ hw0 hs0 hsZ hxZ hxS hrZ hNS hOS hfS HG0 HN c0 c1 c2 c3 c4 c5 c6 c7 c8 c9 c10 c11 c12 c13 c14
    go_loopw [4] (fun s4 wr => ∃ (i : Nat) (va : Option Addr) (vn vc : Nat), i ≤ t.args.length ∧ s4 = .int .i64 i ∧ Hid (GSt w wS (w.heap.size + 1 + 1) wS.heap.size copyT n (.mk t.kind t.op ox t.s t.b t.f t.ref t.to t.args) t.args wr i va vn vc)) (fun s4 _ => t.args.length - (intOf s4).toNat)
    case atStart => exact ⟨0, none, 0, 0, Nat.zero_le _, rfl, HST⟩
    case round =>
      clear HST
      obtain ⟨i, va, vn, vc, hi, rfl, HS⟩ := hrel
      have hNr : NodeAt wr w.heap.size 0 t a t.args.length cap := HNS.out.keep (fun o => World.cell?_of_block (w := wS) (a := ⟨w.heap.size, o, none⟩) (HS.out.keep w.heap.size (by omega) (by omega)))
      have hN14 := hNr.c14
      rw [Nat.zero_add] at hN14
      by_cases hlt : i < t.args.length
      · obtain ⟨x, hx⟩ : ∃ x, t.args[i]? = some x := ⟨t.args[i], by simp [hlt]⟩
        obtain ⟨n', b, off, xa, xc, hn', rfl, hNx0, hA⟩ := HIN.out.at hx
        have hbl : b < w.heap.size := World.block_lt_of_cell? w _ hNx0.c0
        have hNx := hNx0.xt HS.out.xt
        have hki : (i : Int) < (t.args.length : Int) := by omega
        have hO14 := HS.out.box.c14
        rw [Nat.zero_add] at hO14
        have hsmx : smallT x := smallL_at (smallT_args HSM.out).2 hx
        have hlen : t.args.length ≤ 1099511627744 := (smallT_args HSM.out).1
        have HC := Lib.hid (IH.out n' (by omega) x xa xc wr.drew hsmx ((hA.xt HS.out.xt).xt (Xt.refl wr).drew))
        clear hNx0 hA hNr
        go_wp2_with fail
        refine wp_region_held_drew (S := fun w' => w'.cell? ⟨w.heap.size, 14, none⟩ = some (.slice (some ⟨b, off, none⟩) t.args.length cap) ∧ NodeAt w' b (off + i * 15) x xa x.args.length xc) (by kernel_rfl) ⟨hN14, hNx.xt (Xt.refl wr).drew⟩ (fun hHeld => ?_)
        refine wpAnyH_take (i := 0) (oi := _) (v := ?_) rfl (by kernel_rfl) (by kernel_rfl) (by kernel_rfl) (fun _ _ _ h => h) (Or.inl ⟨by rfl, ?_⟩) (by assumption) ?_
        rotate_left
        · intro w hSw; go_simp; first | done | with_reducible rfl
        try simp only [Act.put, List.getElem_toArray, List.getElem_cons_zero, List.setIfInBounds_toArray, List.set_cons_zero, List.set_cons_succ]
        refine wpAnyH_take (i := 2) (oi := _) (v := ?_) rfl (by kernel_rfl) (by kernel_rfl) (by kernel_rfl) (fun _ _ _ h => h) (Or.inl ⟨by rfl, ?_⟩) (by assumption) ?_
        rotate_left
        · intro w hSw; go_simp; first | done | with_reducible rfl
        try simp only [Act.put, List.getElem_toArray, List.getElem_cons_zero, List.getElem_cons_succ, List.setIfInBounds_toArray, List.set_cons_zero, List.set_cons_succ]
        refine wpAnyH_take (i := 3) (oi := _) (v := ?_) rfl (by kernel_rfl) (by kernel_rfl) (by kernel_rfl) (fun _ _ _ h => h) (Or.inl ⟨by rfl, ?_⟩) (by assumption) ?_
        rotate_left
        · intro w hSw; (try dsimp only at hSw); have q14 := hSw.1; go_simp; first | done | with_reducible rfl
        try simp only [Act.put, List.getElem_toArray, List.getElem_cons_zero, List.getElem_cons_succ, List.setIfInBounds_toArray, List.set_cons_zero, List.set_cons_succ]
        refine wpAnyH_take (i := 4) (oi := _) (v := ?_) rfl (by kernel_rfl) (by kernel_rfl) (by kernel_rfl) (fun _ _ _ h => h) (Or.inl ⟨by rfl, ?_⟩) (by assumption) ?_
        rotate_left
        · intro w hSw; go_simp; first | done | with_reducible rfl
        try simp only [Act.put, List.getElem_toArray, List.getElem_cons_zero, List.getElem_cons_succ, List.setIfInBounds_toArray, List.set_cons_zero, List.set_cons_succ]
        refine wpAnyH_take (i := 5) (oi := _) (v := ?_) rfl (by kernel_rfl) (by kernel_rfl) (by kernel_rfl) (fun _ _ _ h => h) (Or.inl ⟨by rfl, ?_⟩) (by assumption) ?_
        rotate_left
        · intro w hSw; go_simp; first | done | with_reducible rfl
        try simp only [Act.put, List.getElem_toArray, List.getElem_cons_zero, List.getElem_cons_succ, List.setIfInBounds_toArray, List.set_cons_zero, List.set_cons_succ]
        refine wpAnyH_take (i := 6) (oi := _) (v := ?_) rfl (by kernel_rfl) (by kernel_rfl) (by kernel_rfl) (fun _ _ _ h => h) (Or.inl ⟨by rfl, ?_⟩) (by assumption) ?_
        rotate_left
        · intro w hSw; (try dsimp only at hSw); obtain ⟨e0, e1, e2, e3, e4, e5, e6, e7, e8, e9, e10, e11, e12, e13, e14⟩ := hSw.2; go_simp; first | done | with_reducible rfl
        try simp only [Act.put, List.getElem_toArray, List.getElem_cons_zero, List.getElem_cons_succ, List.setIfInBounds_toArray, List.set_cons_zero, List.set_cons_succ]
        refine wpAnyH_ready (rs := [1, 7]) (by kernel_rfl) (by simp) ?_
        refine AllReadyH.cons (o := _) rfl (fun K hK => ?_) (AllReadyH.cons (o := _) rfl (fun K hK => ?_) AllReadyH.nil)
        · go_simp
          refine hK.out _ _ hHeld (fun hHeld3 => ?_)
          clear hK K
          try simp only [Act.put, List.getElem_toArray, List.getElem_cons_zero, List.getElem_cons_succ, List.setIfInBounds_toArray, List.set_cons_zero, List.set_cons_succ]
          refine wpAnyH_ready (rs := [7]) (by kernel_rfl) (by simp) ?_
          refine AllReadyH.cons (o := _) rfl (fun K hK => ?_) AllReadyH.nil
          go_simp
          refine (HC.out).mono ?_
          rintro e w6 ⟨a', c', rfl, hAS, h6⟩
          obtain ⟨wA, hwA, va', vn', vc', w7, hpush, g6, gA, g7, f7, HS6, HSA, HS7, HS8, HEND⟩ := grow_step (t := t) hn' HS.out hx hlen hN14 hNx hbl hAS h6
          refine hK.out _ _ HS6.out (fun hHeld2 => ?_)
          clear hK K
          try simp only [Act.put, List.getElem_toArray, List.getElem_cons_zero, List.getElem_cons_succ, List.setIfInBounds_toArray, List.set_cons_zero, List.set_cons_succ]
          refine wpAnyH_ready (rs := [8]) (by kernel_rfl) (by simp) ?_
          refine AllReadyH.cons (o := _) rfl (fun K hK => ?_) AllReadyH.nil
          go_simp
          refine hK.out _ _ HSA.out (fun hHeld3 => ?_)
          clear hK K
          try simp only [Act.put, List.getElem_toArray, List.getElem_cons_zero, List.getElem_cons_succ, List.setIfInBounds_toArray, List.set_cons_zero, List.set_cons_succ]
          refine wpAnyH_ready (rs := [9]) (by kernel_rfl) (by simp) ?_
          refine AllReadyH.cons (o := _) rfl (fun K hK => ?_) AllReadyH.nil
          rw [if_pos (by rfl)]
          refine oper_append_eq _ _ 42 rfl _ _ rfl rfl hpush ?_
          refine hK.out _ _ HS7.out (fun hHeld4 => ?_)
          clear hK K
          try simp only [Act.put, List.getElem_toArray, List.getElem_cons_zero, List.getElem_cons_succ, List.setIfInBounds_toArray, List.set_cons_zero, List.set_cons_succ]
          refine wpAnyH_take (i := 10) (oi := _) (v := ?_) rfl (by kernel_rfl) (by kernel_rfl) (by kernel_rfl) (fun _ _ _ h => h) (Or.inl ⟨by rfl, ?_⟩) (by assumption) ?_
          rotate_left
          · intro w hSw; go_simp; first | done | with_reducible rfl
          try simp only [Act.put, List.getElem_toArray, List.getElem_cons_zero, List.getElem_cons_succ, List.setIfInBounds_toArray, List.set_cons_zero, List.set_cons_succ]
          refine wpAnyH_ready (rs := [11]) (by kernel_rfl) (by simp) ?_
          refine AllReadyH.cons (o := _) rfl (fun K hK => ?_) AllReadyH.nil
          go_simp
          refine hK.out _ _ HS8.out (fun hHeld5 => ?_)
          clear hK K
          refine wpAnyH_done (by kernel_rfl) ?_ _
          go_wp2_with fail
          go_roundw
          case rel => exact ⟨i + 1, va', vn', vc', by omega, by go_num, HEND⟩
          case measure => simp [intOf]; omega
        · go_simp
          refine (HC.out).mono ?_
          rintro e w6 ⟨a', c', rfl, hAS, h6⟩
          obtain ⟨wA, hwA, va', vn', vc', w7, hpush, g6, gA, g7, f7, HS6, HSA, HS7, HS8, HEND⟩ := grow_step (t := t) hn' HS.out hx hlen hN14 hNx hbl hAS h6
          refine hK.out _ _ HS6.out (fun hHeld2 => ?_)
          clear hK K
          try simp only [Act.put, List.getElem_toArray, List.getElem_cons_zero, List.getElem_cons_succ, List.setIfInBounds_toArray, List.set_cons_zero, List.set_cons_succ]
          refine wpAnyH_ready (rs := [1, 8]) (by kernel_rfl) (by simp) ?_
          refine AllReadyH.cons (o := _) rfl (fun K hK => ?_) (AllReadyH.cons (o := _) rfl (fun K hK => ?_) AllReadyH.nil)
          · go_simp
            refine hK.out _ _ HS6.out (fun hHeld3 => ?_)
            clear hK K
            try simp only [Act.put, List.getElem_toArray, List.getElem_cons_zero, List.getElem_cons_succ, List.setIfInBounds_toArray, List.set_cons_zero, List.set_cons_succ]
            refine wpAnyH_ready (rs := [8]) (by kernel_rfl) (by simp) ?_
            refine AllReadyH.cons (o := _) rfl (fun K hK => ?_) AllReadyH.nil
            go_simp
            refine hK.out _ _ HSA.out (fun hHeld3 => ?_)
            clear hK K
            try simp only [Act.put, List.getElem_toArray, List.getElem_cons_zero, List.getElem_cons_succ, List.setIfInBounds_toArray, List.set_cons_zero, List.set_cons_succ]
            refine wpAnyH_ready (rs := [9]) (by kernel_rfl) (by simp) ?_
            refine AllReadyH.cons (o := _) rfl (fun K hK => ?_) AllReadyH.nil
            rw [if_pos (by rfl)]
            refine oper_append_eq _ _ 42 rfl _ _ rfl rfl hpush ?_
            refine hK.out _ _ HS7.out (fun hHeld4 => ?_)
            clear hK K
            try simp only [Act.put, List.getElem_toArray, List.getElem_cons_zero, List.getElem_cons_succ, List.setIfInBounds_toArray, List.set_cons_zero, List.set_cons_succ]
            refine wpAnyH_take (i := 10) (oi := _) (v := ?_) rfl (by kernel_rfl) (by kernel_rfl) (by kernel_rfl) (fun _ _ _ h => h) (Or.inl ⟨by rfl, ?_⟩) (by assumption) ?_
            rotate_left
            · intro w hSw; go_simp; first | done | with_reducible rfl
            try simp only [Act.put, List.getElem_toArray, List.getElem_cons_zero, List.getElem_cons_succ, List.setIfInBounds_toArray, List.set_cons_zero, List.set_cons_succ]
            refine wpAnyH_ready (rs := [11]) (by kernel_rfl) (by simp) ?_
            refine AllReadyH.cons (o := _) rfl (fun K hK => ?_) AllReadyH.nil
            go_simp
            refine hK.out _ _ HS8.out (fun hHeld5 => ?_)
            clear hK K
            refine wpAnyH_done (by kernel_rfl) ?_ _
            go_wp2_with fail
            go_roundw
            case rel => exact ⟨i + 1, va', vn', vc', by omega, by go_num, HEND⟩
            case measure => simp [intOf]; omega
          · go_simp
            refine hK.out _ _ HSA.out (fun hHeld3 => ?_)
            clear hK K
            try simp only [Act.put, List.getElem_toArray, List.getElem_cons_zero, List.getElem_cons_succ, List.setIfInBounds_toArray, List.set_cons_zero, List.set_cons_succ]
            refine wpAnyH_ready (rs := [1]) (by kernel_rfl) (by simp) ?_
            refine AllReadyH.cons (o := _) rfl (fun K hK => ?_) AllReadyH.nil
            go_simp
            refine hK.out _ _ HSA.out (fun hHeld3 => ?_)
            clear hK K
            try simp only [Act.put, List.getElem_toArray, List.getElem_cons_zero, List.getElem_cons_succ, List.setIfInBounds_toArray, List.set_cons_zero, List.set_cons_succ]
            refine wpAnyH_ready (rs := [9]) (by kernel_rfl) (by simp) ?_
            refine AllReadyH.cons (o := _) rfl (fun K hK => ?_) AllReadyH.nil
            rw [if_pos (by rfl)]
            refine oper_append_eq _ _ 42 rfl _ _ rfl rfl hpush ?_
            refine hK.out _ _ HS7.out (fun hHeld4 => ?_)
            clear hK K
            try simp only [Act.put, List.getElem_toArray, List.getElem_cons_zero, List.getElem_cons_succ, List.setIfInBounds_toArray, List.set_cons_zero, List.set_cons_succ]
            refine wpAnyH_take (i := 10) (oi := _) (v := ?_) rfl (by kernel_rfl) (by kernel_rfl) (by kernel_rfl) (fun _ _ _ h => h) (Or.inl ⟨by rfl, ?_⟩) (by assumption) ?_
            rotate_left
            · intro w hSw; go_simp; first | done | with_reducible rfl
            try simp only [Act.put, List.getElem_toArray, List.getElem_cons_zero, List.getElem_cons_succ, List.setIfInBounds_toArray, List.set_cons_zero, List.set_cons_succ]
            refine wpAnyH_ready (rs := [11]) (by kernel_rfl) (by simp) ?_
            refine AllReadyH.cons (o := _) rfl (fun K hK => ?_) AllReadyH.nil
            go_simp
            refine hK.out _ _ HS8.out (fun hHeld5 => ?_)
            clear hK K
            refine wpAnyH_done (by kernel_rfl) ?_ _
            go_wp2_with fail
            go_roundw
            case rel => exact ⟨i + 1, va', vn', vc', by omega, by go_num, HEND⟩
            case measure => simp [intOf]; omega
      · obtain rfl : i = t.args.length := by omega
        obtain ⟨c0, c1, c2, c3, c4, c5, c6, c7, c8, c9, c10, c11, c12, c13, c14⟩ := HS.out.box.facts0
        try simp only [Nat.zero_add] at c0 c1 c2 c3 c4 c5 c6 c7 c8 c9 c10 c11 c12 c13 c14
        have hres := (HS.out.keep (w.heap.size + 1) (by omega) (by omega)).trans HRZ.out
        obtain ⟨e1, e2, e3, _⟩ := grow_end (w' := wr) HS.out (fun _ _ _ => rfl)
        subst e1
        obtain ⟨g0, g1, g2, g3, g4, g5, g6, g7, g8, g9, g10, g11, g12, g13, g14⟩ := row_frozen (w := wr) hres
        obtain ⟨v0, v1, v2, v3, v4, v5, v6, v7, v8, v9, v10, v11, v12, v13, v14, r0, r1, r2, r3, r4, r5, r6, r7, r8, r9, r10, r11, r12, r13, r14⟩ := row_there (w := wr) hres rfl
        go_wp2_with fail
        (try simp only [Exit.inBlock, Exit.then])
        have hF := fill15 hres rfl (.int .i64 t.kind) (.int .i64 t.op) (.float .f64 ox) (.string t.s) (.bool t.b) (.int .i64 t.f) (.int .i64 t.ref.a.1) (.int .i64 t.ref.a.2) (.bool t.ref.cf) (.bool t.ref.rf) (.int .i64 t.to.a.1) (.int .i64 t.to.a.2) (.bool t.to.cf) (.bool t.to.rf) (.slice va t.args.length vc)
        refine bodyPost_ret (results_cell_row rfl _ _ (w.heap.size + 1) _ _ _ _ rfl hF.1 Tryz.underlying44 rfl (by kernel_rfl)) rfl ?_
        have hsz := HS.out.lo
        have hend := (grow_end HS.out (fun b hb hlt => hF.2.block b (by simpa using hlt) (fun e => by cases e; omega))).2.2.2 vc (Or.inl rfl)
        refine ⟨va, vc, ?_, ?_, HS.out.xt.grownB hF.2 (fun m hm => by cases hm; omega)⟩
        · obtain ⟨k, op, x, s, bb, f, r, q, args⟩ := t; show Ending.returned _ = Ending.returned _; simp only [copyT, NodeT.kind, NodeT.op, NodeT.x, NodeT.s, NodeT.b, NodeT.f, NodeT.ref, NodeT.to, NodeT.args, copyL_map, List.length_map] at HOX ⊢; rw [← HOX.out]; rfl
        · obtain ⟨k, op, x, s, bb, f, r, q, args⟩ := t; simp only [copyT, NodeT.args, copyL_map, List.length_map] at hend ⊢; exact hend.keep (fun b hb _ => by omega) (fun _ _ _ => rfl)

/-- All but the args, by the document, and how many these are. -/
def head12 (a b : NodeT) : Bool := (a.kind == b.kind) && (a.op == b.op) && decide (oneX a.x = oneX b.x) && (a.s.toList == b.s.toList) && (a.b == b.b) && (a.f == b.f) && refB a.ref b.ref && refB a.to b.to
theorem same12_eq (a b : NodeT) : sameTB a b = (head12 a b && ((a.args.length : Int) == (b.args.length : Int)) && sameLB a.args b.args) := by
  rw [sameTB_eq]
  have h1 : alikeB a b = head12 a b := by
    unfold alikeB head12
    rw [Bool.eq_iff_iff]
    simp only [Bool.and_eq_true, beq_iff_eq, decide_eq_true_eq, Int.natCast_inj]
  rw [h1]
  by_cases h : a.args.length = b.args.length
  · have : ((a.args.length : Int) == (b.args.length : Int)) = true := by rw [h]; simp
    rw [this, Bool.and_true]
  · have : ((a.args.length : Int) == (b.args.length : Int)) = false := by simp; omega
    rw [this, sameLB_len h, Bool.and_false, Bool.and_false]
theorem same_nosame12_any {a b : NodeT} {l l' : List NodeT} (h : (head12 a b && ((a.args.length : Int) == (b.args.length : Int))) = false) : (head12 a b && ((a.args.length : Int) == (b.args.length : Int)) && sameLB l l') = false := by rw [h]; rfl
theorem same_yessame12_any {a b : NodeT} {l l' : List NodeT} (h : (head12 a b && ((a.args.length : Int) == (b.args.length : Int))) = true) : (head12 a b && ((a.args.length : Int) == (b.args.length : Int)) && sameLB l l') = sameLB l l' := by rw [h]; rfl
def Same12Is (n : Nat) : Prop := ∀ (a b : NodeT) (aa ba : Option Addr) (ac bc : Nat) (w : World), ArgsIn w n (.slice aa a.args.length ac) a.args → ArgsIn w n (.slice ba b.args.length bc) b.args →
  Calls Tryz.prog 85 #[nodeV a aa a.args.length ac, nodeV b ba b.args.length bc] w fun e w' => e = .returned (.bool (sameTB a b)) ∧ Gr w w'
set_option maxRecDepth 100000 in
set_option maxHeartbeats 8000000 in
theorem same12_any : ∀ n, Same12Is n := by
  intro n
  induction n using Nat.strongRecOn with
  | ind n ih =>
    intro a b aa ba ac bc w ha hb
    obtain ⟨w0, hw0, hg0, hs0, hN⟩ := boxN w a aa a.args.length ac 44
    obtain ⟨w1, hw1, hg1, hs1, hM⟩ := boxN w0 b ba b.args.length bc 44
    rw [hs0] at hM hs1
    have hN := hN.xt hg1.xt
    obtain ⟨k0, k1, k2, k3, k4, k5, k6, k7, k8, k9, k10, k11, k12, k13, k14⟩ := hN
    simp only [Nat.zero_add] at k0 k1 k2 k3 k4 k5 k6 k7 k8 k9 k10 k11 k12 k13 k14
    obtain ⟨m0, m1, m2, m3, m4, m5, m6, m7, m8, m9, m10, m11, m12, m13, m14⟩ := hM
    simp only [Nat.zero_add] at m0 m1 m2 m3 m4 m5 m6 m7 m8 m9 m10 m11 m12 m13 m14
    have HG := Lib.hid (hg0.trans hg1)
    have HS := Lib.hid (same12_eq a b)
    have HA := Lib.hid ha
    have HB := Lib.hid hb
    have IH := Lib.hid ih
    obtain ⟨_, _, e1, ql1, ql2⟩ := ha.shape
    cases e1
    obtain ⟨_, _, e2, qm1, qm2⟩ := hb.shape
    cases e2
    generalize sameTB a b = ans at HS ⊢
    clear ih ha hb hg0 hg1
    have HX := Lib.hid (sameX12_any a.x b.x)
    generalize hxb : decide (oneX a.x = oneX b.x) = xb at HX
    have HXB := Lib.hid hxb
    clear hxb
    cases h0 : (a.kind == b.kind)
    · have hn0 : (a.kind != b.kind) = true := by unfold bne; rw [h0]; rfl
      go_enter Tryz.func85, Tryz.ntmps85
      go_upto_region 2 with (refine (HX.out _).mono ?_; rintro e w' ⟨rfl, rfl⟩)
      try simp only [List.append_eq, List.cons_append, List.nil_append]
      clear hw0 hw1
      go_wp2_with fail
      go_ret
      refine ⟨?_, HG.out⟩
      rw [HS.out]
      refine congrArg (fun z => Ending.returned (.bool z)) (Eq.symm ?_)
      exact same_nosame12_any (by simp [head12, HXB.out, h0])
    have hn0 : (a.kind != b.kind) = false := by unfold bne; rw [h0]; rfl
    have E0 := Lib.hid h0
    cases h1 : (a.op == b.op)
    · have hn1 : (a.op != b.op) = true := by unfold bne; rw [h1]; rfl
      go_enter Tryz.func85, Tryz.ntmps85
      go_upto_region 2 with (refine (HX.out _).mono ?_; rintro e w' ⟨rfl, rfl⟩)
      try simp only [List.append_eq, List.cons_append, List.nil_append]
      clear hw0 hw1
      go_wp2_with fail
      go_ret
      refine ⟨?_, HG.out⟩
      rw [HS.out]
      refine congrArg (fun z => Ending.returned (.bool z)) (Eq.symm ?_)
      exact same_nosame12_any (by simp [head12, HXB.out, h1, E0.out])
    have hn1 : (a.op != b.op) = false := by unfold bne; rw [h1]; rfl
    have E1 := Lib.hid h1
    cases xb
    · have h2 : (false : Bool) = false := rfl
      go_enter Tryz.func85, Tryz.ntmps85
      go_upto_region 2 with (refine (HX.out _).mono ?_; rintro e w' ⟨rfl, rfl⟩)
      try simp only [List.append_eq, List.cons_append, List.nil_append]
      clear hw0 hw1
      go_wp2_with fail
      go_ret
      refine ⟨?_, HG.out⟩
      rw [HS.out]
      refine congrArg (fun z => Ending.returned (.bool z)) (Eq.symm ?_)
      exact same_nosame12_any (by simp [head12, HXB.out, E0.out, E1.out])
    have h2 : (true : Bool) = true := rfl
    have E2 := Lib.hid h2
    cases h3 : (a.s.toList == b.s.toList)
    · have hn3 : (a.s.toList != b.s.toList) = true := by unfold bne; rw [h3]; rfl
      go_enter Tryz.func85, Tryz.ntmps85
      go_upto_region 2 with (refine (HX.out _).mono ?_; rintro e w' ⟨rfl, rfl⟩)
      try simp only [List.append_eq, List.cons_append, List.nil_append]
      clear hw0 hw1
      go_wp2_with fail
      go_ret
      refine ⟨?_, HG.out⟩
      rw [HS.out]
      refine congrArg (fun z => Ending.returned (.bool z)) (Eq.symm ?_)
      exact same_nosame12_any (by simp [head12, HXB.out, h3, E0.out, E1.out])
    have hn3 : (a.s.toList != b.s.toList) = false := by unfold bne; rw [h3]; rfl
    have E3 := Lib.hid h3
    cases h4 : (a.b == b.b)
    · have hn4 : (a.b != b.b) = true := by unfold bne; rw [h4]; rfl
      go_enter Tryz.func85, Tryz.ntmps85
      go_upto_region 2 with (refine (HX.out _).mono ?_; rintro e w' ⟨rfl, rfl⟩)
      try simp only [List.append_eq, List.cons_append, List.nil_append]
      clear hw0 hw1
      go_wp2_with fail
      go_ret
      refine ⟨?_, HG.out⟩
      rw [HS.out]
      refine congrArg (fun z => Ending.returned (.bool z)) (Eq.symm ?_)
      exact same_nosame12_any (by simp [head12, HXB.out, h4, E0.out, E1.out, E3.out])
    have hn4 : (a.b != b.b) = false := by unfold bne; rw [h4]; rfl
    have E4 := Lib.hid h4
    cases h5 : (a.f == b.f)
    · have hn5 : (a.f != b.f) = true := by unfold bne; rw [h5]; rfl
      go_enter Tryz.func85, Tryz.ntmps85
      go_upto_region 2 with (refine (HX.out _).mono ?_; rintro e w' ⟨rfl, rfl⟩)
      try simp only [List.append_eq, List.cons_append, List.nil_append]
      clear hw0 hw1
      go_wp2_with fail
      go_ret
      refine ⟨?_, HG.out⟩
      rw [HS.out]
      refine congrArg (fun z => Ending.returned (.bool z)) (Eq.symm ?_)
      exact same_nosame12_any (by simp [head12, HXB.out, h5, E0.out, E1.out, E3.out, E4.out])
    have hn5 : (a.f != b.f) = false := by unfold bne; rw [h5]; rfl
    have E5 := Lib.hid h5
    cases h6 : refB a.ref b.ref
    · have hn6 : (!refB a.ref b.ref) = true := by rw [h6]; rfl
      go_enter Tryz.func85, Tryz.ntmps85
      go_upto_region 2 with (refine (HX.out _).mono ?_; rintro e w' ⟨rfl, rfl⟩)
      try simp only [List.append_eq, List.cons_append, List.nil_append]
      clear hw0 hw1
      go_wp2_with fail
      go_ret
      refine ⟨?_, HG.out⟩
      rw [HS.out]
      refine congrArg (fun z => Ending.returned (.bool z)) (Eq.symm ?_)
      exact same_nosame12_any (by simp [head12, HXB.out, h6, E0.out, E1.out, E3.out, E4.out, E5.out])
    have E6 := Lib.hid h6
    cases h7 : refB a.to b.to
    · have hn7 : (!refB a.to b.to) = true := by rw [h7]; rfl
      go_enter Tryz.func85, Tryz.ntmps85
      go_upto_region 2 with (refine (HX.out _).mono ?_; rintro e w' ⟨rfl, rfl⟩)
      try simp only [List.append_eq, List.cons_append, List.nil_append]
      clear hw0 hw1
      go_wp2_with fail
      go_ret
      refine ⟨?_, HG.out⟩
      rw [HS.out]
      refine congrArg (fun z => Ending.returned (.bool z)) (Eq.symm ?_)
      exact same_nosame12_any (by simp [head12, HXB.out, h7, E0.out, E1.out, E3.out, E4.out, E5.out, E6.out])
    have E7 := Lib.hid h7
    cases h8 : ((a.args.length : Int) == (b.args.length : Int))
    · have hn8 : ((a.args.length : Int) != (b.args.length : Int)) = true := by unfold bne; rw [h8]; rfl
      go_enter Tryz.func85, Tryz.ntmps85
      go_upto_region 2 with (refine (HX.out _).mono ?_; rintro e w' ⟨rfl, rfl⟩)
      try simp only [List.append_eq, List.cons_append, List.nil_append]
      clear hw0 hw1
      go_wp2_with fail
      go_ret
      refine ⟨?_, HG.out⟩
      rw [HS.out]
      refine congrArg (fun z => Ending.returned (.bool z)) (Eq.symm ?_)
      exact same_nosame12_any (by simp [head12, HXB.out, h8, E0.out, E1.out, E3.out, E4.out, E5.out, E6.out, E7.out])
    have hn8 : ((a.args.length : Int) != (b.args.length : Int)) = false := by unfold bne; rw [h8]; rfl
    have E8 := Lib.hid h8
    have hll : a.args.length = b.args.length := by have := of_eq_of_beq_len h8; exact this
    have HL := Lib.hid hll
    clear hll
    have HS2 : Hid (ans = sameLB a.args b.args) := by
      unfold Hid
      rw [HS.out]
      exact same_yessame12_any (by simp [head12, HXB.out, h8, E0.out, E1.out, E3.out, E4.out, E5.out, E6.out, E7.out])
    go_enter Tryz.func85, Tryz.ntmps85
    go_upto_region 2 with (refine (HX.out _).mono ?_; rintro e w' ⟨rfl, rfl⟩)
    try simp only [List.append_eq, List.cons_append, List.nil_append]
    clear hw0 hw1
    go_wp2_with fail
    obtain ⟨wn, hwn⟩ : ∃ wn, w1 = wn := ⟨_, rfl⟩
    have HGN : Hid (Gr w wn) := by rw [← hwn]; exact HG.out
    have k14n : wn.cell? ⟨w.heap.size, 14, none⟩ = some (.slice aa a.args.length ac) := by rw [← hwn]; exact k14
    have m14n : wn.cell? ⟨w.heap.size + 1, 14, none⟩ = some (.slice ba b.args.length bc) := by rw [← hwn]; exact m14
    have hszn : wn.heap.size = w.heap.size + 1 + 1 := by rw [← hwn]; exact hs1
    rw [hwn]
    clear hwn hs0 hs1 k14 m14
    clear k0 k1 k2 k3 k4 k5 k6 k7 k8 k9 k10 k11 k12 k13 m0 m1 m2 m3 m4 m5 m6 m7 m8 m9 m10 m11 m12 m13
    clear h0 h1 h2 h3 h4 h5 h6 h7 h8 HG HS
    go_loopw [6] (fun s wr => ∃ i : Nat, i ≤ a.args.length ∧ s = .int .i64 i ∧ Hid (Gr wn wr) ∧ Hid (ans = sameLB (a.args.drop i) (b.args.drop i))) (fun s _ => a.args.length - (intOf s).toNat)
    case atStart => exact ⟨0, Nat.zero_le _, rfl, Gr.refl _, HS2⟩
    case round =>
      obtain ⟨i, hi, rfl, HGr, HSi⟩ := hrel
      have c14 := ((HGr.out.xt.cells).1 w.heap.size 14 (by omega)).trans k14n
      have b14 := ((HGr.out.xt.cells).1 (w.heap.size + 1) 14 (by omega)).trans m14n
      by_cases hlt : i < a.args.length
      · obtain ⟨x, hx⟩ : ∃ x, a.args[i]? = some x := ⟨a.args[i], by simp [hlt]⟩
        obtain ⟨y, hy⟩ : ∃ y, b.args[i]? = some y := ⟨b.args[i]'(by have := HL.out; omega), by simp⟩
        obtain ⟨n', bx, ox, xa, xc, hn', rfl, hNx, hAx⟩ := HA.out.at hx
        obtain ⟨n2, by', oy, ya, yc, hn2, rfl, hNy, hAy⟩ := HB.out.at hy
        obtain rfl : n' = n2 := by omega
        have hxw : Xt w wr := (HGN.out.trans HGr.out).xt
        have hNx := hNx.xt hxw
        have hNy := hNy.xt hxw
        obtain ⟨d0, d1, d2, d3, d4, d5, d6, d7, d8, d9, d10, d11, d12, d13, d14⟩ := hNx
        obtain ⟨f0, f1, f2, f3, f4, f5, f6, f7, f8, f9, f10, f11, f12, f13, f14⟩ := hNy
        have hki : (i : Int) < (a.args.length : Int) := by omega
        have hkj : (i : Int) < (b.args.length : Int) := by have := HL.out; omega
        have HC := Lib.hid (IH.out n' (by omega) x y xa ya xc yc wr.drew ((hAx.xt hxw).xt (Xt.refl wr).drew) ((hAy.xt hxw).xt (Xt.refl wr).drew))
        have HE : Hid (sameLB (a.args.drop i) (b.args.drop i) = (sameTB x y && sameLB (a.args.drop (i + 1)) (b.args.drop (i + 1)))) := by
          unfold Hid
          rw [drop_at hx, drop_at hy, sameLB_cons]
        generalize sameTB x y = rb at HC HE
        clear hAx hAy hx hy hxw hn' hn2
        go_wp2_with fail
        refine wp_region_still_tail 10 (by kernel_rfl) (by kernel_rfl) ?_
        change wpStill _ _ (World.drew _) _ _ _
        simp only [List.take_succ_cons, List.take_zero, List.drop_succ_cons, List.drop_zero]
        still_step
        still_step
        still_step
        still_step
        still_step
        still_step
        still_step
        still_step
        still_step
        still_step
        refine wpStill_nil ?_
        change wpList _ _ _ _ _ (World.drew _)
        refine wpList_step (fun K hK => ?_)
        go_simp
        refine (HC.out).mono ?_
        rintro e w4 ⟨rfl, hg4⟩
        refine hK _ _ ?_
        have HG4 : Hid (Gr wn w4) := (HGr.out.drew).trans hg4
        clear hK K hg4 d0 d1 d2 d3 d4 d5 d6 d7 d8 d9 d10 d11 d12 d13 d14 f0 f1 f2 f3 f4 f5 f6 f7 f8 f9 f10 f11 f12 f13 f14 c14 b14
        cases rb
        · go_wp2_with fail
          go_ret
          exact ⟨by rw [HSi.out, HE.out]; rfl, HGN.out.trans HG4.out⟩
        · go_wp2_with fail
          go_roundw
          case rel => exact ⟨i + 1, by omega, by go_num, HG4, by unfold Hid; rw [HSi.out, HE.out]; rfl⟩
          case measure => simp [intOf]; omega
      · have he : i = a.args.length := by omega
        subst he
        go_wp2_with fail
        go_ret
        have hb : b.args.length = a.args.length := HL.out.symm
        exact ⟨by rw [HSi.out, List.drop_length, ← hb, List.drop_length, sameLB_nil]; rfl, HGN.out.trans HGr.out⟩

/-! ### grid.Same -/
inductive KeyC where
  | p (v : Int × KeyV) | f (t : NodeT) | o
def keyC (c : ContT) : Int × KeyC := (c.kind, if (c.kind == 1) = true then .p (keyV c.v) else if (c.kind == 2) = true then .f (copyT c.t) else .o)
noncomputable def sameCB (a b : ContT) : Bool := @decide (keyC a = keyC b) (Classical.propDecidable _)
theorem sameCB_iff (a b : ContT) : sameCB a b = true ↔ keyC a = keyC b := @decide_eq_true_iff _ (Classical.propDecidable _)
theorem sameVB_iff (a b : ValT) : sameVB a b = true ↔ keyV a = keyV b := @decide_eq_true_iff _ (Classical.propDecidable _)
theorem sameCB_kind {a b : ContT} (h : (a.kind == b.kind) = false) : sameCB a b = false := by
  cases hs : sameCB a b
  · rfl
  · have := congrArg Prod.fst ((sameCB_iff _ _).1 hs)
    simp only [keyC] at this
    rw [this] at h; simp at h
theorem sameCB_1 {a b : ContT} (h : (a.kind == b.kind) = true) (h1 : (a.kind == 1) = true) : sameCB a b = sameVB a.v b.v := by
  have e := eq_of_beq h
  rw [Bool.eq_iff_iff, sameCB_iff, sameVB_iff]
  unfold keyC
  rw [← e]; simp [h1]
theorem sameCB_2 {a b : ContT} (h : (a.kind == b.kind) = true) (h1 : (a.kind == 1) = false) (h2 : (a.kind == 2) = true) : sameCB a b = sameTB a.t b.t := by
  have e := eq_of_beq h
  rw [Bool.eq_iff_iff, sameCB_iff, sameTB_iff]
  unfold keyC
  rw [← e]; simp [h1, h2]
theorem sameCB_o {a b : ContT} (h : (a.kind == b.kind) = true) (h1 : (a.kind == 1) = false) (h2 : (a.kind == 2) = false) : sameCB a b = true := by
  have e := eq_of_beq h
  rw [sameCB_iff]
  unfold keyC
  rw [← e]; simp [h1, h2]
set_option maxRecDepth 100000 in
set_option maxHeartbeats 4000000 in
theorem gsame_any (n : Nat) (a b : ContT) (aa ba : Option Addr) (ac bc : Nat) (w : World) (ha : ArgsIn w n (.slice aa a.t.args.length ac) a.t.args) (hb : ArgsIn w n (.slice ba b.t.args.length bc) b.t.args) :
    Calls Tryz.prog 51 #[contV a aa a.t.args.length ac, contV b ba b.t.args.length bc] w fun e w' => e = .returned (.bool (sameCB a b)) ∧ Gr w w' := by
  obtain ⟨w0, hw0, hg0, hs0, hN⟩ := boxC w a aa a.t.args.length ac 46
  obtain ⟨w1, hw1, hg1, hs1, hM⟩ := boxC w0 b ba b.t.args.length bc 46
  rw [hs0] at hM
  have hN := hN.xt hg1.xt
  obtain ⟨k0, k1, k2, k3, k4, k5, k6, k7, k8, k9, k10, k11, k12, k13, k14, k15, k16, k17, k18, k19, k20⟩ := hN
  obtain ⟨m0, m1, m2, m3, m4, m5, m6, m7, m8, m9, m10, m11, m12, m13, m14, m15, m16, m17, m18, m19, m20⟩ := hM
  simp only [Nat.zero_add] at k0 k1 k2 k3 k4 k5 k6 k7 k8 k9 k10 k11 k12 k13 k14 k15 k16 k17 k18 k19 k20 m0 m1 m2 m3 m4 m5 m6 m7 m8 m9 m10 m11 m12 m13 m14 m15 m16 m17 m18 m19 m20
  have HG := Lib.hid (hg0.trans hg1)
  have HV := Lib.hid (vSame_any a.v b.v w1)
  have HT := Lib.hid (fsame_any n a.t b.t aa ba ac bc w1 (ha.xt (hg0.trans hg1).xt) (hb.xt (hg0.trans hg1).xt))
  clear ha hb hg0 hg1
  cases hk : (a.kind == b.kind)
  · have HS := Lib.hid (sameCB_kind hk)
    clear k1 k2 k3 k4 k5 k6 k7 k8 k9 k10 k11 k12 k13 k14 k15 k16 k17 k18 k19 k20 m1 m2 m3 m4 m5 m6 m7 m8 m9 m10 m11 m12 m13 m14 m15 m16 m17 m18 m19 m20
    go_enter Tryz.func51, Tryz.ntmps51
    go_wp2_with fail
    go_ret
    exact ⟨by rw [HS.out]; rfl, HG.out⟩
  cases h1 : (a.kind == 1)
  rotate_left
  · have HS := Lib.hid (sameCB_1 hk h1)
    clear k6 k7 k8 k9 k10 k11 k12 k13 k14 k15 k16 k17 k18 k19 k20 m6 m7 m8 m9 m10 m11 m12 m13 m14 m15 m16 m17 m18 m19 m20
    go_enter Tryz.func51, Tryz.ntmps51
    go_wp2_with (refine (HV.out).mono ?_; rintro e w2 ⟨rfl, hg2⟩; have HG2 := Lib.hid hg2; clear hg2)
    go_ret
    exact ⟨by rw [HS.out]; rfl, HG.out.trans HG2.out⟩
  cases h2 : (a.kind == 2)
  · have HS := Lib.hid (sameCB_o hk h1 h2)
    clear k1 k2 k3 k4 k5 k6 k7 k8 k9 k10 k11 k12 k13 k14 k15 k16 k17 k18 k19 k20 m1 m2 m3 m4 m5 m6 m7 m8 m9 m10 m11 m12 m13 m14 m15 m16 m17 m18 m19 m20
    go_enter Tryz.func51, Tryz.ntmps51
    go_wp2_with fail
    go_ret
    exact ⟨by rw [HS.out]; rfl, HG.out⟩
  · have HS := Lib.hid (sameCB_2 hk h1 h2)
    clear k1 k2 k3 k4 k5 m1 m2 m3 m4 m5
    go_enter Tryz.func51, Tryz.ntmps51
    go_wp2_with (refine (HT.out).mono ?_; rintro e w2 ⟨rfl, hg2⟩; have HG2 := Lib.hid hg2; clear hg2)
    go_ret
    exact ⟨by rw [HS.out]; rfl, HG.out.trans HG2.out⟩
end
end Go.Proofs.YtideclfpbpjebaaGreatDoor
