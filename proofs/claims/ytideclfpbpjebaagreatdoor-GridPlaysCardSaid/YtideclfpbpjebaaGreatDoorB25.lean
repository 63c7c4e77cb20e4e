import Derived.Test.YtideclfpbpjebaaGreatDoorB18
import Derived.Test.YtideclfpbpjebaaGreatDoorB21
import Derived.Lib.AppendZeros
namespace Go.Proofs.YtideclfpbpjebaaGreatDoor
section
open Go.RowKit Go.Sort Go.Maps Go.Shelf Go.MapKept

theorem inC1_len (x : PI) : (inC1 x).length = 23 := rfl
theorem inC1_one (x : PI) : ∀ u ∈ inC1 x, u.oneCell' = true := by
  intro u hu
  simp only [inC1, List.mem_cons, List.not_mem_nil, or_false] at hu
  rcases hu with h | h | h | h | h | h | h | h | h | h | h | h | h | h | h | h | h | h | h | h | h | h | h <;> subst h <;> rfl
/-- A growing list of puts, in memory of the call's own. -/
structure PutsG (w : World) (base : Nat) (v : Value) (l : List PI) : Prop where
  own : OwnL w base 84 23 inC1 v l
  args : ∀ x ∈ l, x.c.ok ∧ ∃ n, ArgsS (fun b => v.ownBlock ≠ some b) w n (.slice x.p x.c.t.args.length x.cap) x.c.t.args
theorem PutsG.nil (w : World) (base : Nat) : PutsG w base (.slice none 0 0) [] := ⟨World.ownsRow_nil _ _ _ _, fun x hx => by cases hx⟩
theorem PutsG.puts {w : World} {base : Nat} {v : Value} {l : List PI} (h : PutsG w base v l) : PutsIn w v l :=
  ⟨h.own.sl inC1_len, fun x hx => let ⟨h1, n, hn⟩ := h.args x hx; ⟨h1, n, hn.args⟩⟩
theorem PutsG.xt {w w' : World} {base : Nat} {v : Value} {l : List PI} (h : PutsG w base v l) (hx : Xt w w') : PutsG w' base v l :=
  ⟨h.own.xt hx, fun x hx' => let ⟨h1, n, hn⟩ := h.args x hx'; ⟨h1, n, hn.keep (fun _ hb _ => hb) (fun b o _ hl => (hx.cells).1 b o hl)⟩⟩
theorem PutsG.base {w : World} {base : Nat} {v : Value} {l : List PI} (h : PutsG w base v l) : ∀ g, v.ownBlock = some g → base ≤ g ∧ g < w.heap.size := fun g hg => World.ownsRow.lt h.own g hg
/-- Nodes that lie ahead of where one's own memory begins. -/
theorem PutsIn.ahead {w : World} {v : Value} {l : List PI} (h : PutsIn w v l) {S : Nat → Prop} (hS : ∀ b, b < w.heap.size → S b) : ∀ x ∈ l, x.c.ok ∧ ∃ n, ArgsS S w n (.slice x.p x.c.t.args.length x.cap) x.c.t.args := fun x hx =>
  let ⟨h1, n, hn⟩ := h.args x hx; ⟨h1, n, hn.toS.keep (fun b hb _ => hS b hb) (fun _ _ _ _ => rfl)⟩
theorem PutsIn.old {w W : World} {v v' : Value} {l : List PI} (h : PutsIn w v l) (hx : Xt w W) (hv : ∀ g, v'.ownBlock = some g → w.heap.size ≤ g) : ∀ x ∈ l, x.c.ok ∧ ∃ n, ArgsS (fun b => v'.ownBlock ≠ some b) W n (.slice x.p x.c.t.args.length x.cap) x.c.t.args := fun x hx' =>
  let ⟨h1, n, hn⟩ := h.args x hx'; ⟨h1, n, hn.toS.keep (fun b hb _ e => by have := hv b e; omega) (fun b o _ hl => (hx.cells).1 b o hl)⟩
/-- What lies in rows of two cells and more does not lie in a block of one cell. -/
theorem ArgsIn.but {w w' : World} {rb : Nat} (hone : ∀ o u, w.cell? ⟨rb, o, none⟩ = some u → o = 0) (hk : ∀ b o u, b ≠ rb → w.cell? ⟨b, o, none⟩ = some u → w'.cell? ⟨b, o, none⟩ = some u) : ∀ {n : Nat} {av : Value} {l : List NodeT}, ArgsIn w n av l → ArgsIn w' n av l
  | 0, _, _, h => h
  | n + 1, _, _, h => by
    obtain ⟨a, cap, rfl, h1, h2, h3⟩ := h
    refine ⟨a, cap, rfl, h1, h2, fun hne => ?_⟩
    obtain ⟨b, off, rfl, hc⟩ := h3 hne
    refine ⟨b, off, rfl, fun k t ht => ?_⟩
    obtain ⟨av', hcell, hin⟩ := hc k t ht
    have hb : b ≠ rb := fun e => by
      subst e
      have e1 := hone _ _ (hcell 1 _ rfl)
      omega
    exact ⟨av', fun i u hu => hk _ _ _ hb (hcell i u hu), hin.but hone hk⟩
theorem PutsIn.but {w w' : World} {rb : Nat} {v : Value} {l : List PI} (h : PutsIn w v l) (hone : ∀ o u, w.cell? ⟨rb, o, none⟩ = some u → o = 0) (hk : ∀ b o u, b ≠ rb → w.cell? ⟨b, o, none⟩ = some u → w'.cell? ⟨b, o, none⟩ = some u) : PutsIn w' v l := by
  refine ⟨?_, fun x hx => let ⟨h1, n, hn⟩ := h.args x hx; ⟨h1, n, hn.but hone hk⟩⟩
  obtain ⟨a, cap, rfl, h1, h2, h3⟩ := h.sl
  refine ⟨a, cap, rfl, h1, h2, fun hne => ?_⟩
  obtain ⟨b, off, rfl, hc⟩ := h3 hne
  have hb : b ≠ rb := fun e => by
    subst e
    obtain ⟨x, r, rfl⟩ := List.exists_cons_of_ne_nil hne
    have e1 := hone _ _ (hc 0 x rfl 1 _ rfl)
    omega
  exact ⟨b, off, rfl, fun j x hx i u hu => hk _ _ _ hb (hc j x hx i u hu)⟩
theorem sl_news23 {w : World} {a : Option Addr} {m cap : Nat} {l : List PI} {ad : Addr} (h : SlOf w inC1 23 (.slice a m cap) l) (ha : a = some ad) (hl : l ≠ []) : ∀ j u, (l.flatMap inC1)[j]? = some u → w.cell? (ad.add j) = some u := by
  obtain ⟨a', c', e, q1, q2, hc⟩ := h
  cases e
  obtain ⟨b, off, e2, hcell⟩ := hc hl
  rw [ha] at e2
  cases e2
  intro j u hu
  rw [Addr.add_lit]
  have hj : j < l.length * 23 := by have := (List.getElem?_eq_some_iff.1 hu).1; rwa [flat_len inC1_len] at this
  have hi : j % 23 < 23 := Nat.mod_lt _ (by decide)
  have hd : j / 23 < l.length := by omega
  have e3 : j / 23 * 23 + j % 23 = j := by omega
  have hf := flat_get inC1_len l (j / 23) (j % 23) l[j / 23] (List.getElem?_eq_getElem hd) hi
  rw [e3, hu] at hf
  have := hcell (j / 23) l[j / 23] (List.getElem?_eq_getElem hd) (j % 23) u hf.symm
  rwa [Nat.add_assoc, e3] at this
theorem run_app_nil {w : World} {v : Value} {n : Nat} {xs : List Value} {base : Nat} (h : w.ownsRow base 84 23 v n xs) (a : Option Addr) (c : Nat) (ty : TypeId) : (Builtin.append_ #[29, 29] ty #[v, .slice a 0 c]).run Tryz.prog w = .ok v w := by
  obtain ⟨i0, hi, hz0, hz1, hz2⟩ := info_parts infoPut
  rcases h.2 with ⟨rfl, h0⟩ | ⟨g, cap, cur, rfl, hbg, hg, hn, hcm, hs, ht⟩
  · cases a <;> simp [Builtin.append_, run_underlying Tryz.underlying29, sizeOf, typeInfo, hi, Builtin.lenOf, Builtin.firstCells, loadCells, loadCellsFrom]
  · cases a <;> simp [Builtin.append_, run_underlying Tryz.underlying29, sizeOf, typeInfo, hi, Builtin.lenOf, Builtin.firstCells, hn, storeCells, loadCells, loadCellsFrom]
theorem PutsG.push {w : World} {base : Nat} {v u : Value} {l1 l2 : List PI} (h : PutsG w base v l1) (hb : base ≤ w.heap.size) (hu : SlOf w inC1 23 u l2) (hok : ∀ x ∈ l2, x.c.ok ∧ ∃ n, ArgsS (fun b => v.ownBlock ≠ some b) w n (.slice x.p x.c.t.args.length x.cap) x.c.t.args) (hl : l1.length + l2.length ≤ 1048576) (ty : TypeId) :
    ∃ v' w', (Builtin.append_ #[29, 29] ty #[v, u]).run Tryz.prog w = .ok v' w' ∧ PutsG w' base v' (l1 ++ l2) ∧ w.grownBy w' v.ownBlock := by
  obtain ⟨i0, hi, hz0, hz1, hz2⟩ := info_parts infoPut
  have hu2 := hu
  obtain ⟨a, c, rfl, q1, q2, hc⟩ := hu2
  by_cases hne : l2 = []
  · subst hne
    refine ⟨v, w, run_app_nil h.own a c ty, by rw [List.append_nil]; exact h, ⟨rfl, rfl, rfl, Nat.le_refl _, fun _ _ _ => rfl⟩⟩
  · obtain ⟨b, off, rfl, hcell⟩ := hc hne
    have hnews := sl_news23 hu rfl hne
    have hlen : (l2.flatMap inC1).length = l2.length * 23 := flat_len inC1_len l2
    have ho : ∀ u ∈ l2.flatMap inC1, u.oneCell' = true := by
      intro u hu
      obtain ⟨x, _, hx⟩ := List.mem_flatMap.1 hu
      exact inC1_one x u hx
    have hbase0 : w.ownsRow 0 84 23 v l1.length (l1.flatMap inC1) := h.own.base (Nat.zero_le _)
    obtain ⟨v', w', hr, _, _, hwh⟩ := run_append_where (P := Tryz.prog) w 29 ty 84 i0 _ 23 200 Tryz.underlying29 hi hz0 hz1 hz2 rfl (by decide) v l1.length (l1.flatMap inC1) hbase0 _ l2.length c (l2.flatMap inC1) hlen hnews ho (by unfold maxLen; omega) (by omega)
    obtain ⟨v2, w2, hr2, hown2, hg2, _⟩ := run_append_own (P := Tryz.prog) w base 29 ty 84 i0 _ 23 200 Tryz.underlying29 hi hz0 hz1 hz2 rfl (by decide) v l1.length (l1.flatMap inC1) h.own _ l2.length c (l2.flatMap inC1) hlen hnews ho (by unfold maxLen; omega) (by omega) hb
    rw [hr] at hr2
    cases hr2
    have hS : ∀ b, b < w.heap.size → (v.ownBlock ≠ some b) → (v'.ownBlock ≠ some b) := fun b hlt hb e => by
      rcases hwh with e' | e'
      · rw [e'] at e; exact hb e
      · have := e' b e; omega
    have hk : ∀ b o, (v.ownBlock ≠ some b) → b < w.heap.size → w'.cell? ⟨b, o, none⟩ = w.cell? ⟨b, o, none⟩ := fun b o hb hlt => World.cell?_of_block (w := w) (a := ⟨b, o, none⟩) (hg2.block b hlt (fun e => hb e.symm))
    refine ⟨v', w', hr, ⟨?_, fun y hy => ?_⟩, hg2⟩
    · unfold OwnL
      rw [List.flatMap_append, List.length_append]
      exact hown2
    · rcases List.mem_append.1 hy with h1 | h1
      · obtain ⟨k1, n, hn⟩ := h.args y h1
        exact ⟨k1, n, hn.keep (fun b hb hlt => hS b hlt hb) hk⟩
      · obtain ⟨k1, n, hn⟩ := hok y h1
        exact ⟨k1, n, hn.keep (fun b hb hlt => hS b hlt hb) hk⟩
/-! ### x[:j] and x[j:] -/
section
variable {α : Type} {enc : α → List Value} {k : Nat} {T : TypeId}
theorem to_anyG {w : World} {a : Option Addr} {n cap : Nat} {l : List α} {S : TypeId} (hS : Tryz.prog.underlying S = some (.slice (Tryz.prog.elem S))) (hE : Tryz.prog.elem S = T) (hz : ∀ w, (sizeOf T).run Tryz.prog w = .ok k w) (h : SlOf w enc k (.slice a n cap) l) (j : Nat) (hj : j ≤ l.length) :
    ∃ a', (∀ W, (Instr.slice S (.slice a n cap) none (some (.int .i64 (j : Int))) none).run Tryz.prog W = .ok (.slice a' j cap) W) ∧ SlOf w enc k (.slice a' j cap) (l.take j) := by
  obtain ⟨a0, c0, e, q1, q2, hc⟩ := h
  cases e
  have htl : (l.take j).length = j := by rw [List.length_take]; omega
  have hrun : ∀ W, (Instr.slice S (.slice a l.length cap) none (some (.int .i64 (j : Int))) none).run Tryz.prog W = .ok (sliced a 0 j cap k) W := fun W => by
    rw [run_slice_h W S a l.length cap hS .i64 j (by omega) (by omega), hE, hz]
    simp
  obtain ⟨a', ha', hsame⟩ : ∃ a', sliced a 0 j cap k = .slice a' j cap ∧ ∀ b off, a = some ⟨b, off, none⟩ → a' = some ⟨b, off, none⟩ := by
    refine ⟨_, rfl, fun b off e => ?_⟩
    subst e
    simp [Addr.add_lit]
  refine ⟨a', fun W => by rw [hrun, ha'], a', cap, by rw [htl], by omega, q2, fun hne => ?_⟩
  have hl : l ≠ [] := by intro e; subst e; simp at hne
  obtain ⟨b, off, e, hcell⟩ := hc hl
  refine ⟨b, off, hsame b off e, fun t x hx i u hu => ?_⟩
  rw [List.getElem?_take] at hx
  split at hx
  · exact hcell t x hx i u hu
  · cases hx
theorem from_anyG {w : World} {a : Option Addr} {n cap : Nat} {l : List α} {S : TypeId} (hS : Tryz.prog.underlying S = some (.slice (Tryz.prog.elem S))) (hE : Tryz.prog.elem S = T) (hz : ∀ w, (sizeOf T).run Tryz.prog w = .ok k w) (h : SlOf w enc k (.slice a n cap) l) (j : Nat) (hj : j ≤ l.length) :
    ∃ a' c', (∀ W, (Instr.slice S (.slice a n cap) (some (.int .i64 (j : Int))) none none).run Tryz.prog W = .ok (.slice a' (l.length - j) c') W) ∧ SlOf w enc k (.slice a' (l.length - j) c') (l.drop j) := by
  obtain ⟨a0, c0, e, q1, q2, hc⟩ := h
  cases e
  have hrun : ∀ W, (Instr.slice S (.slice a l.length cap) (some (.int .i64 (j : Int))) none none).run Tryz.prog W = .ok (sliced a j l.length cap k) W := fun W => by
    rw [run_slice_l W S a l.length cap hS .i64 j (by omega) (by omega), hE, hz]
    simp
  have hdl : (l.drop j).length = l.length - j := by rw [List.length_drop]
  refine ⟨_, cap - j, fun W => by rw [hrun]; rfl, _, cap - j, by rw [hdl], by omega, by omega, fun hne => ?_⟩
  have hl : l ≠ [] := by intro e; subst e; simp at hne
  have hlt : j < l.length := by
    rcases Nat.lt_or_ge j l.length with h | h
    · exact h
    · exact absurd (List.drop_eq_nil_of_le h) hne
  obtain ⟨b, off, rfl, hcell⟩ := hc hl
  refine ⟨b, off + j * k, ?_, fun t x hx i u hu => ?_⟩
  · rw [if_neg (by omega), Option.map_some, Addr.add_lit]
  · rw [List.getElem?_drop] at hx
    have := hcell (j + t) x hx i u hu
    rw [Nat.add_mul, ← Nat.add_assoc] at this
    exact this
end
/-! ### a put, by the place -/
section
variable {α : Type}
theorem set_at {a : Ad} {v : α} : ∀ {M : List (Ad × α)} {lo : Nat}, SortedM M → (∀ j x, M[j]? = some x → (adLt x.1 a = true ↔ j < lo)) → lo ≤ M.length →
    setM a v M = M.take lo ++ (a, v) :: M.drop (if (∃ x, M[lo]? = some x ∧ x.1 = a) then lo + 1 else lo)
  | [], lo, _, _, hl => by
    have : lo = 0 := by simpa using hl
    subst this
    simp [setM]
  | x :: r, 0, hs, h, _ => by
    have hx : ¬ adLt x.1 a = true := fun e => by have := (h 0 x rfl).1 e; omega
    rw [setM]
    by_cases e : x.1 = a
    · rw [if_pos e, if_pos ⟨x, rfl, e⟩]; rfl
    · have h2 : adLt a x.1 = true := by
        rcases adLt_tri x.1 a with q | q | q
        · exact absurd q e
        · exact absurd q hx
        · exact q
      rw [if_neg e, if_pos h2, if_neg (fun ⟨y, hy, e2⟩ => e (by cases hy; exact e2))]; rfl
  | x :: r, lo + 1, hs, h, hl => by
    have hx : adLt x.1 a = true := (h 0 x rfl).2 (by omega)
    have e : ¬ x.1 = a := fun e => by rw [e, adLt_irrefl] at hx; cases hx
    have h2 : ¬ adLt a x.1 = true := fun q => by have := swo_ad.trans _ _ _ q hx; rw [adLt_irrefl] at this; cases this
    rw [setM, if_neg e, if_neg h2, set_at (M := r) (lo := lo) (List.pairwise_cons.1 hs).2 (fun j y hy => (h (j + 1) y hy).trans ⟨fun q => by omega, fun q => by omega⟩) (by simpa using hl)]
    simp only [List.getElem?_cons_succ, List.take_succ_cons, List.cons_append]
    split <;> rfl
theorem del_at {a : Ad} : ∀ {M : List (Ad × α)} {lo : Nat}, SortedM M → (∀ j x, M[j]? = some x → (adLt x.1 a = true ↔ j < lo)) → lo ≤ M.length →
    delM a M = M.take lo ++ M.drop (if (∃ x, M[lo]? = some x ∧ x.1 = a) then lo + 1 else lo)
  | [], lo, _, _, hl => by
    have : lo = 0 := by simpa using hl
    subst this
    simp [delM]
  | x :: r, 0, hs, h, _ => by
    have hx : ¬ adLt x.1 a = true := fun e => by have := (h 0 x rfl).1 e; omega
    have hall : ∀ y ∈ r, adLt x.1 y.1 = true := (List.pairwise_cons.1 hs).1
    have hr : delM a r = r := by
      unfold delM
      rw [List.filter_eq_self]
      intro y hy
      have h1 := hall y hy
      have : y.1 ≠ a := fun e2 => hx (e2 ▸ h1)
      simp [this]
    rw [delM, List.filter_cons]
    by_cases e : x.1 = a
    · have hex : ∃ y, (x :: r)[0]? = some y ∧ y.1 = a := ⟨x, rfl, e⟩
      rw [if_pos hex, if_neg (by simp [e])]
      exact hr
    · have hex : ¬ ∃ y, (x :: r)[0]? = some y ∧ y.1 = a := fun ⟨y, hy, e2⟩ => e (by cases hy; exact e2)
      rw [if_neg hex, if_pos (by simp [e])]
      show x :: delM a r = _
      rw [hr]; rfl
  | x :: r, lo + 1, hs, h, hl => by
    have hx : adLt x.1 a = true := (h 0 x rfl).2 (by omega)
    have e : ¬ x.1 = a := fun e => by rw [e, adLt_irrefl] at hx; cases hx
    have ih := del_at (M := r) (lo := lo) (List.pairwise_cons.1 hs).2 (fun j y hy => (h (j + 1) y hy).trans ⟨fun q => by omega, fun q => by omega⟩) (by simpa using hl)
    rw [delM, List.filter_cons]
    simp only [e, decide_false, Bool.not_false, if_true]
    show x :: delM a r = _
    rw [ih]
    simp only [List.getElem?_cons_succ, List.take_succ_cons, List.cons_append]
    split <;> rfl
theorem lk_at {a : Ad} {M : List (Ad × α)} {lo : Nat} (hs : SortedM M) (h : ∀ j x, M[j]? = some x → (adLt x.1 a = true ↔ j < lo)) :
    (∀ x, M[lo]? = some x → x.1 = a → lkM a M = some x.2) ∧ ((¬ ∃ x, M[lo]? = some x ∧ x.1 = a) → lkM a M = none) := by
  constructor
  · intro x hx e
    have hm := List.mem_of_getElem? hx
    cases hl : lkM a M with
    | none => exact absurd e (lkM_none.1 hl x hm)
    | some v =>
      have hm2 := lkM_mem hl
      obtain ⟨j, hj⟩ := List.mem_iff_getElem?.1 hm2
      have h1 : ¬ j < lo := fun q => by have := (h j _ hj).2 q; rw [adLt_irrefl] at this; cases this
      by_cases h2 : j = lo
      · subst h2; rw [hx] at hj; cases hj; rfl
      · exfalso
        have hb := (List.getElem?_eq_some_iff.1 hx)
        have hb2 := (List.getElem?_eq_some_iff.1 hj)
        obtain ⟨p1, p2⟩ := hb
        obtain ⟨p3, p4⟩ := hb2
        have := List.pairwise_iff_getElem.1 hs lo j p1 p3 (by omega)
        rw [p2, p4, e, adLt_irrefl] at this; cases this
  · intro hno
    refine lkM_none.2 fun x hx e => hno ?_
    obtain ⟨j, hj⟩ := List.mem_iff_getElem?.1 hx
    have h1 : ¬ j < lo := fun q => by have := (h j _ hj).2 q; rw [e, adLt_irrefl] at this; cases this
    have hlo : lo < M.length := by have := (List.getElem?_eq_some_iff.1 hj).1; omega
    have h2 : ¬ lo < j := fun q => by
      obtain ⟨p3, p4⟩ := List.getElem?_eq_some_iff.1 hj
      have := List.pairwise_iff_getElem.1 hs lo j hlo p3 q
      rw [p4, e] at this
      have := (h lo _ (List.getElem?_eq_getElem hlo)).1 this
      omega
    have : j = lo := by omega
    subst this
    exact ⟨x, hj, e⟩
end
theorem PosR.plain {a : Ad} {l : List PI} {lo : Nat} {is : Bool} (h : PosR a l lo is) : (∀ j (x : Ad × ContT), (pis l)[j]? = some x → (adLt x.1 a = true ↔ j < lo)) ∧ ((∃ x, (pis l)[lo]? = some x ∧ x.1 = a) ↔ is = true) := by
  refine ⟨fun j x hx => ?_, ?_⟩
  · unfold pis at hx
    rw [List.getElem?_map] at hx
    cases hy : l[j]? with
    | none => rw [hy] at hx; cases hx
    | some y => rw [hy] at hx; cases hx; exact h.ahead j y hy
  · rw [h.there]
    unfold pis
    rw [List.getElem?_map]
    constructor
    · rintro ⟨x, hx, e⟩
      cases hy : l[lo]? with
      | none => rw [hy] at hx; cases hx
      | some y => rw [hy] at hx; cases hx; exact ⟨y, rfl, e⟩
    · rintro ⟨x, hx, e⟩
      rw [hx]
      exact ⟨(x.a, x.c), rfl, e⟩
/-- What a put leaves, by the place. -/
theorem PosR.set {a : Ad} {l : List PI} {lo : Nat} {is : Bool} (h : PosR a l lo is) (hs : SortedM (pis l)) (z : PI) (hz : z.a = a) : pis ((l.take lo ++ [z]) ++ l.drop (if is = true then lo + 1 else lo)) = setM a z.c (pis l) := by
  obtain ⟨h1, h2⟩ := h.plain
  rw [set_at hs h1 (by unfold pis; rw [List.length_map]; exact h.le)]
  unfold pis at h2 ⊢
  simp only [List.map_append, List.map_take, List.map_drop, List.map_cons, h2, hz, List.append_assoc, List.cons_append, List.nil_append]
theorem PosR.del {a : Ad} {l : List PI} {lo : Nat} {is : Bool} (h : PosR a l lo is) (hs : SortedM (pis l)) : pis (l.take lo ++ l.drop (if is = true then lo + 1 else lo)) = delM a (pis l) := by
  obtain ⟨h1, h2⟩ := h.plain
  rw [del_at hs h1 (by unfold pis; rw [List.length_map]; exact h.le)]
  unfold pis at h2 ⊢
  simp only [List.map_append, List.map_take, List.map_drop, h2]
theorem PosR.look {a : Ad} {l : List PI} {lo : Nat} {is : Bool} (h : PosR a l lo is) (hs : SortedM (pis l)) : (lkM a (pis l)).isSome = is ∧ ∀ x, l[lo]? = some x → is = true → lkM a (pis l) = some x.c := by
  obtain ⟨h1, h2⟩ := h.plain
  obtain ⟨k1, k2⟩ := lk_at hs h1
  have key : ∀ x, l[lo]? = some x → is = true → lkM a (pis l) = some x.c := fun x hx hi => by
    obtain ⟨y, hy, e⟩ := h.there.1 hi
    rw [hx] at hy
    cases hy
    exact k1 (x.a, x.c) (by unfold pis; rw [List.getElem?_map, hx]; rfl) e
  refine ⟨?_, key⟩
  cases is with
  | true =>
    obtain ⟨y, hy, e⟩ := h.there.1 rfl
    rw [key y hy rfl]; rfl
  | false =>
    rw [k2 (fun q => by have := h2.1 q; cases this)]; rfl
theorem pis_len (l : List PI) : (pis l).length = l.length := by simp [pis]
end
section
open Go.RowKit Go.Sort Go.Maps Go.Shelf Go.MapKept
attribute [local go_sem] Oper.semAt_some

set_option maxRecDepth 100000 in
set_option maxHeartbeats 4000000 in
theorem gclone_any (gb mb : Nat) (M : GM) (w : World) (h : GridIs w gb mb M) : Calls Tryz.prog 26 #[.pointer (some ⟨gb, 0, none⟩)] w fun e w' => ∃ g, e = .returned (.pointer (some ⟨g, 0, none⟩)) ∧ GridIs w' g w.heap.size M ∧ w.heap.size ≤ g ∧ Xt w w' := by
  obtain ⟨E, ⟨es, clock, hes, hst, hkv⟩, he⟩ := h.map
  have hc := h.cell
  have H := Lib.hid h
  have HM := Lib.hid (show MapIs (w.alloc (.map es clock)) w.heap.size E from ⟨es, clock, (MapKept.heap_alloc w _).1, hst, hkv⟩)
  have HC := Lib.hid (mclone_any mb es clock w hes)
  have HE := Lib.hid he
  clear h hes hst hkv he
  go_enter Tryz.func26, Tryz.ntmps26
  go_wp2_with (first
    | (go_at_call 49; refine HC.out.mono ?_; rintro e w1 ⟨rfl, rfl⟩))
  go_ret
  obtain ⟨w1, hw1⟩ : ∃ w1, w.alloc (.map es clock) = w1 := ⟨_, rfl⟩
  have hs1 : w1.heap.size = w.heap.size + 1 := by rw [← hw1]; simp
  have hx1 : Xt w w1 := by rw [← hw1]; exact (Xt.refl _).alloc _
  have hm := HM.out
  rw [hw1] at hm ⊢
  obtain ⟨w2, hw2⟩ : ∃ w2, w1.alloc (.cells #[.map (some w.heap.size)] 68) = w2 := ⟨_, rfl⟩
  have hx2 : Xt w1 w2 := by rw [← hw2]; exact (Xt.refl _).alloc _
  have hr2 : w2.heap[w1.heap.size]? = some (.cells #[.map (some w.heap.size)] 68 (0, 0)) := by rw [← hw2]; exact (MapKept.heap_alloc w1 _).1
  first | rw [hw2] | skip
  have hx := hx1.trans hx2
  refine ⟨w1.heap.size, by first | rfl | simp [hs1], ⟨by simp [World.cell?, hr2], ⟨E, hm.of_heap (hx2.block _ hm.lt), HE.out⟩, H.out.sorted, fun x hx' => (H.out.args x hx').kept hx.cellsIn, H.out.many⟩, by omega, hx⟩
/-- A put laid in a box of its own, as a slice of one. -/
theorem one_put (w : World) (x : PI) : SlOf (w.alloc (.cells (inC1 x).toArray 84)) inC1 23 (.slice (some ⟨w.heap.size, 0, none⟩) 1 1) [x] := by
  refine ⟨_, 1, rfl, by simp, by omega, fun _ => ⟨w.heap.size, 0, rfl, fun j y hy i u hu => ?_⟩⟩
  obtain rfl : j = 0 := by have := (List.getElem?_eq_some_iff.1 hy).1; simp at this; exact this
  have ex : x = y := by simpa using hy
  subst ex
  have h1 := news_at w (inC1 x) 84 (b := w.heap.size) rfl i u hu
  rw [Addr.add_lit] at h1
  have e1 : 0 + 0 * 23 + i = 0 + i := by omega
  rw [e1]
  exact h1
/-- A put of an older list is put behind a growing one. -/
theorem push_old {w0 w : World} {v : Value} {l1 : List PI} (h : PutsG w w0.heap.size v l1) (hx : Xt w0 w) (x : PI) (hok : x.c.ok) (hin : ∃ n, ArgsIn w0 n (.slice x.p x.c.t.args.length x.cap) x.c.t.args) (hl : l1.length ≤ 1000000) (ty : TypeId) :
    ∃ v' w', (Builtin.append_ #[29, 29] ty #[v, .slice (some ⟨w.heap.size, 0, none⟩) 1 1]).run Tryz.prog (w.alloc (.cells (inC1 x).toArray 84)) = .ok v' w' ∧ PutsG w' w0.heap.size v' (l1 ++ [x]) ∧ Xt w0 w' := by
  have hxa : Xt w (w.alloc (.cells (inC1 x).toArray 84)) := (Xt.refl _).alloc _
  have hG := h.xt hxa
  obtain ⟨v', w', hr, hg, hgr⟩ := hG.push (by have := hx.size; have := hxa.size; omega) (one_put w x) (fun y hy => by
    rw [List.mem_singleton.1 hy]
    obtain ⟨n, hn⟩ := hin
    exact ⟨hok, n, hn.toS.keep (fun b hb _ e => by have := (hG.base b e).1; omega) (fun b o _ hl => ((hx.trans hxa).cells).1 b o hl)⟩) (by simp; omega) ty
  exact ⟨v', w', hr, hg, (hx.trans hxa).grownB hgr (fun m hm => (hG.base m (by first | exact hm | exact hm.symm)).1)⟩
set_option maxRecDepth 100000 in
set_option maxHeartbeats 4000000 in
theorem dclone_any (rb : Nat) (l : List PI) (w : World) (h : DG w rb l) : Calls Tryz.prog 27 #[.pointer (some ⟨rb, 0, none⟩)] w fun e w' => ∃ r, e = .returned (.pointer (some ⟨r, 0, none⟩)) ∧ DG w' r l ∧ w.heap.size ≤ r ∧ Xt w w' := by
  obtain ⟨v, hc, hP⟩ := h.cell
  obtain ⟨la, lc, rfl, hlc, hlc2⟩ := hP.shape
  have hxA : Xt w (w.alloc (.cells #[] 84)) := (Xt.refl _).alloc _
  have hG : PutsG (w.alloc (.cells #[] 84)) w.heap.size (.slice (some ⟨w.heap.size, 0, none⟩) 0 0) [] := ⟨⟨rfl, Or.inr ⟨w.heap.size, 0, #[], rfl, Nat.le_refl _, (MapKept.heap_alloc w _).1, by simp, by simp [maxLen], by simp, by simp⟩⟩, fun x hx => by cases hx⟩
  obtain ⟨v', w1, hp, hg1, hgr⟩ := hG.push (by simp) (hP.xt hxA).sl (fun x hx => hP.old hxA (fun g hg => (hG.base g hg).1) x hx) (by have := h.many; simp; omega) 29
  have hx1 : Xt w w1 := hxA.grownB hgr (fun m hm => (hG.base m (by first | exact hm | exact hm.symm)).1)
  obtain ⟨a9, k9, rfl, _, _⟩ := hg1.own.slice (n := l.length) (by simp)
  have HX1 := Lib.hid hx1
  have HG1 := Lib.hid hg1
  have H := Lib.hid h
  have kc := hxA.cellsIn _ _ _ hc
  clear hG hgr hx1 hg1 h hP hxA
  go_enter Tryz.func27, Tryz.ntmps27
  go_wp2_with (first
    | (at_builtin; refine Lib.wpList_append_run _ rfl _ _ _ _ rfl _ _ rfl rfl _ _ hp ?_; clear hp))
  go_ret
  obtain ⟨w2, hw2⟩ : ∃ w2, w1.alloc (.cells #[.slice a9 l.length k9] 31) = w2 := ⟨_, rfl⟩
  have hx2 : Xt w1 w2 := by rw [← hw2]; exact (Xt.refl _).alloc _
  have hr2 : w2.heap[w1.heap.size]? = some (.cells #[.slice a9 l.length k9] 31 (0, 0)) := by rw [← hw2]; exact (MapKept.heap_alloc w1 _).1
  first | rw [hw2] | skip
  exact ⟨w1.heap.size, rfl, ⟨⟨_, hr2, HG1.out.puts.xt hx2⟩, H.out.sorted, H.out.many, H.out.small⟩, HX1.out.size, HX1.out.trans hx2⟩
/-- A slice of one put is laid. -/
theorem run_one_put (x : PI) (w : World) : (Instr.buildSlice 29 1 #[(0, .agg (inC1 x).toArray)]).run Tryz.prog w = .ok (.slice (some ⟨w.heap.size, 0, none⟩) 1 1) (w.alloc (.cells (inC1 x).toArray 84)) := by kernel_rfl
theorem wpList_one_put {ops : Array Oper} {rest : List Oper} {o : Oper} {a : Act} {w : World} {Q : Exit → Act → World → Prop} (hg : o.guard = none) (y : Operand) (ho : o.op = .buildSlice 29 1 #[(0, y)]) (x : PI) (hy : a.eval y = .agg (inC1 x).toArray)
    (h : wpList Tryz.prog ops Q rest (a.put o.dst (.slice (some ⟨w.heap.size, 0, none⟩) 1 1)) (w.alloc (.cells (inC1 x).toArray 84))) : wpList Tryz.prog ops Q (o :: rest) a w := by
  refine wpList_plain hg fun _ hK => ?_
  unfold Oper.wp execOp
  simp only [ho, List.map_toArray, List.map_cons, List.map_nil, hy, Sem.run_bind, run_one_put, Result.andThen_ok]
  exact hK _ _ h
end
end Go.Proofs.YtideclfpbpjebaaGreatDoor
