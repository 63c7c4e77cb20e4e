import Derived.Test.YtakcadkffmfneaaDoorA1
import Derived.Laws.Externs
import Derived.Laws.StructEq
import Derived.Lib.SlicesCompact
import Derived.Lib.SliceRun
import Derived.Laws.IdiomCopy
import Derived.Deep.DeepAppendWide
namespace Go.Proofs.YtakcadkffmfneaaDoor
open Go.RowKit Go.Sort

/-! ### nodes, values, contents: as they lie in memory -/
structure RefT where
  a : Ad
  cf : Bool
  rf : Bool
inductive NodeT where
  | mk (kind op : Int) (x : Nat) (s : ByteArray) (b : Bool) (f : Int) (ref to : RefT) (args : List NodeT)
def NodeT.kind : NodeT → Int | .mk k _ _ _ _ _ _ _ _ => k
def NodeT.op : NodeT → Int | .mk _ o _ _ _ _ _ _ _ => o
def NodeT.x : NodeT → Nat | .mk _ _ x _ _ _ _ _ _ => x
def NodeT.s : NodeT → ByteArray | .mk _ _ _ s _ _ _ _ _ => s
def NodeT.b : NodeT → Bool | .mk _ _ _ _ b _ _ _ _ => b
def NodeT.f : NodeT → Int | .mk _ _ _ _ _ f _ _ _ => f
def NodeT.ref : NodeT → RefT | .mk _ _ _ _ _ _ r _ _ => r
def NodeT.to : NodeT → RefT | .mk _ _ _ _ _ _ _ r _ => r
def NodeT.args : NodeT → List NodeT | .mk _ _ _ _ _ _ _ _ l => l
/-- A node's cells; av: the slice of its args. -/
def nodeC (t : NodeT) (av : Value) : List Value :=
  [.int .i64 t.kind, .int .i64 t.op, .float .f64 t.x, .string t.s, .bool t.b, .int .i64 t.f, .int .i64 t.ref.a.1, .int .i64 t.ref.a.2, .bool t.ref.cf, .bool t.ref.rf, .int .i64 t.to.a.1, .int .i64 t.to.a.2, .bool t.to.cf, .bool t.to.rf, av]
/-- A slice of nodes, read so deep. -/
def ArgsIn (w : World) : Nat → Value → List NodeT → Prop
  | 0, av, l => l = [] ∧ ∃ a cap, av = .slice a 0 cap ∧ cap ≤ 9223372036854775807
  | n + 1, av, l => ∃ a cap, av = .slice a l.length cap ∧ l.length ≤ cap ∧ cap ≤ 9223372036854775807 ∧ (l ≠ [] → ∃ b off, a = some ⟨b, off, none⟩ ∧ ∀ k t, l[k]? = some t → ∃ av', (∀ i u, (nodeC t av')[i]? = some u → w.cell? ⟨b, off + k * 15 + i, none⟩ = some u) ∧ ArgsIn w n av' t.args)
theorem ArgsIn.shape {w : World} : ∀ {n : Nat} {av : Value} {l : List NodeT}, ArgsIn w n av l → ∃ a cap, av = .slice a l.length cap ∧ l.length ≤ cap ∧ cap ≤ 9223372036854775807
  | 0, _, _, h => by obtain ⟨rfl, a, cap, rfl, hc⟩ := h; exact ⟨a, cap, rfl, Nat.zero_le _, hc⟩
  | _ + 1, _, _, h => by obtain ⟨a, cap, rfl, h1, h2, _⟩ := h; exact ⟨a, cap, rfl, h1, h2⟩
theorem ArgsIn.xt {w w' : World} (hx : Xt w w') : ∀ {n : Nat} {av : Value} {l : List NodeT}, ArgsIn w n av l → ArgsIn w' n av l
  | 0, _, _, h => h
  | n + 1, _, _, h => by
    obtain ⟨a, cap, rfl, h1, h2, h3⟩ := h
    refine ⟨a, cap, rfl, h1, h2, fun hne => ?_⟩
    obtain ⟨b, off, rfl, hc⟩ := h3 hne
    refine ⟨b, off, rfl, fun k t ht => ?_⟩
    obtain ⟨av', hcell, hin⟩ := hc k t ht
    have hb : b < w.heap.size := World.block_lt_of_cell? w _ (hcell 0 _ rfl)
    exact ⟨av', fun i u hu => ((hx.cells).1 _ _ hb).trans (hcell i u hu), hin.xt hx⟩
/-- One of them, its cells one by one. -/
structure NodeAt (w : World) (b o : Nat) (t : NodeT) (a : Option Addr) (n cap : Nat) : Prop where
  c0 : w.cell? ⟨b, o, none⟩ = some (.int .i64 t.kind)
  c1 : w.cell? ⟨b, o + 1, none⟩ = some (.int .i64 t.op)
  c2 : w.cell? ⟨b, o + 2, none⟩ = some (.float .f64 t.x)
  c3 : w.cell? ⟨b, o + 3, none⟩ = some (.string t.s)
  c4 : w.cell? ⟨b, o + 4, none⟩ = some (.bool t.b)
  c5 : w.cell? ⟨b, o + 5, none⟩ = some (.int .i64 t.f)
  c6 : w.cell? ⟨b, o + 6, none⟩ = some (.int .i64 t.ref.a.1)
  c7 : w.cell? ⟨b, o + 7, none⟩ = some (.int .i64 t.ref.a.2)
  c8 : w.cell? ⟨b, o + 8, none⟩ = some (.bool t.ref.cf)
  c9 : w.cell? ⟨b, o + 9, none⟩ = some (.bool t.ref.rf)
  c10 : w.cell? ⟨b, o + 10, none⟩ = some (.int .i64 t.to.a.1)
  c11 : w.cell? ⟨b, o + 11, none⟩ = some (.int .i64 t.to.a.2)
  c12 : w.cell? ⟨b, o + 12, none⟩ = some (.bool t.to.cf)
  c13 : w.cell? ⟨b, o + 13, none⟩ = some (.bool t.to.rf)
  c14 : w.cell? ⟨b, o + 14, none⟩ = some (.slice a n cap)
theorem NodeAt.of {w : World} {b o : Nat} {t : NodeT} {a : Option Addr} {n cap : Nat} (h : ∀ (i : Nat) (u : Value), (nodeC t (.slice a n cap))[i]? = some u → w.cell? ⟨b, o + i, none⟩ = some u) : NodeAt w b o t a n cap :=
  ⟨h 0 _ rfl, h 1 _ rfl, h 2 _ rfl, h 3 _ rfl, h 4 _ rfl, h 5 _ rfl, h 6 _ rfl, h 7 _ rfl, h 8 _ rfl, h 9 _ rfl, h 10 _ rfl, h 11 _ rfl, h 12 _ rfl, h 13 _ rfl, h 14 _ rfl⟩
theorem NodeAt.xt {w w' : World} {b o : Nat} {t : NodeT} {a : Option Addr} {n cap : Nat} (h : NodeAt w b o t a n cap) (hx : Xt w w') : NodeAt w' b o t a n cap := by
  have hb : b < w.heap.size := World.block_lt_of_cell? w _ h.c0
  have e := fun o => (hx.cells).1 b o hb
  exact ⟨(e _).trans h.c0, (e _).trans h.c1, (e _).trans h.c2, (e _).trans h.c3, (e _).trans h.c4, (e _).trans h.c5, (e _).trans h.c6, (e _).trans h.c7, (e _).trans h.c8, (e _).trans h.c9, (e _).trans h.c10, (e _).trans h.c11, (e _).trans h.c12, (e _).trans h.c13, (e _).trans h.c14⟩
/-- The arg at a place. -/
theorem ArgsIn.at {w : World} {n : Nat} {a : Option Addr} {m cap k : Nat} {l : List NodeT} {t : NodeT} (h : ArgsIn w n (.slice a m cap) l) (hk : l[k]? = some t) : ∃ n' b off a' c', n = n' + 1 ∧ a = some ⟨b, off, none⟩ ∧ NodeAt w b (off + k * 15) t a' t.args.length c' ∧ ArgsIn w n' (.slice a' t.args.length c') t.args := by
  cases n with
  | zero => obtain ⟨rfl, _⟩ := h; simp at hk
  | succ n =>
    obtain ⟨a0, c0, e, _, _, h3⟩ := h
    cases e
    obtain ⟨b, off, rfl, hc⟩ := h3 (by intro e; subst e; simp at hk)
    obtain ⟨av', hcell, hin⟩ := hc k t hk
    obtain ⟨a', c', rfl, _, _⟩ := hin.shape
    exact ⟨n, b, off, a', c', rfl, rfl, NodeAt.of hcell, hin⟩
/-- A box for a node. -/
theorem boxN (w : World) (t : NodeT) (a : Option Addr) (n cap : Nat) (T : TypeId) : ∃ w0, w.alloc (.cells #[.int .i64 t.kind, .int .i64 t.op, .float .f64 t.x, .string t.s, .bool t.b, .int .i64 t.f, .int .i64 t.ref.a.1, .int .i64 t.ref.a.2, .bool t.ref.cf, .bool t.ref.rf, .int .i64 t.to.a.1, .int .i64 t.to.a.2, .bool t.to.cf, .bool t.to.rf, .slice a n cap] T) = w0 ∧ Gr w w0 ∧ w0.heap.size = w.heap.size + 1 ∧ NodeAt w0 w.heap.size 0 t a n cap := by
  refine ⟨_, rfl, (Gr.refl _).alloc _, by simp, NodeAt.of fun i u hu => ?_⟩
  rw [Nat.zero_add, World.cell?_alloc_new]
  simpa [nodeC] using hu
/-- A node as a value. -/
abbrev nodeV (t : NodeT) (a : Option Addr) (n cap : Nat) : Value := .agg #[.int .i64 t.kind, .int .i64 t.op, .float .f64 t.x, .string t.s, .bool t.b, .int .i64 t.f, .int .i64 t.ref.a.1, .int .i64 t.ref.a.2, .bool t.ref.cf, .bool t.ref.rf, .int .i64 t.to.a.1, .int .i64 t.to.a.2, .bool t.to.cf, .bool t.to.rf, .slice a n cap]
end Go.Proofs.YtakcadkffmfneaaDoor
namespace Go.Proofs.YtakcadkffmfneaaDoor
open Go.RowKit Go.Sort

/-! ### weight, heavy -/
mutual
def weightT : NodeT → Int → Int
  | .mk _ _ _ _ _ _ _ _ args, most => weightL args 1 most
def weightL : List NodeT → Int → Int → Int
  | [], all, _ => all
  | t :: r, all, most => if all ≤ most then weightL r (all + weightT t (most - all)) most else all
end
theorem weightT_eq (t : NodeT) (m : Int) : weightT t m = weightL t.args 1 m := by cases t; simp [weightT, NodeT.args]
mutual
theorem weightT_le : ∀ (t : NodeT) (m : Int), 0 ≤ m → 1 ≤ weightT t m ∧ weightT t m ≤ m + 1
  | .mk _ _ _ _ _ _ _ _ args, m, h => by
    simp only [weightT]
    exact weightL_le args 1 m (by omega) (by omega)
theorem weightL_le : ∀ (l : List NodeT) (all m : Int), 1 ≤ all → all ≤ m + 1 → all ≤ weightL l all m ∧ weightL l all m ≤ m + 1
  | [], all, m, h1, h2 => by simp only [weightL]; omega
  | t :: r, all, m, h1, h2 => by
    simp only [weightL]
    by_cases h : all ≤ m
    · rw [if_pos h]
      have h3 := weightT_le t (m - all) (by omega)
      have h4 := weightL_le r (all + weightT t (m - all)) m (by omega) (by omega)
      omega
    · rw [if_neg h]; omega
end
theorem wrap_small {x : Int} (h : -9000000000000 ≤ x) (h2 : x ≤ 9000000000000) : wrap64 x = x := by unfold wrap64; omega
theorem drop_at {α : Type} {l : List α} {k : Nat} {x : α} (h : l[k]? = some x) : l.drop k = x :: l.drop (k + 1) := by
  obtain ⟨hk, rfl⟩ := List.getElem?_eq_some_iff.1 h
  exact List.drop_eq_getElem_cons hk
end Go.Proofs.YtakcadkffmfneaaDoor
namespace Go.Proofs.YtakcadkffmfneaaDoor
open Go.RowKit Go.Sort

/-! ### the model's own entries -/
theorem run_bits (w : World) (x : Nat) : (callFunc 41 #[.float .f64 x]).run Tryd.prog w = .ok (.value (.int .u64 x)) w := by
  rw [run_callFunc_extern (fn := Tryd.f41) (by kernel_rfl) (by kernel_rfl) (by kernel_rfl) (by kernel_rfl) (e := Extern.MathFloatBits.float64bits) (by kernel_rfl)]
  rfl
theorem run_from (w : World) (n : Int) : (callFunc 65 #[.int .u64 n]).run Tryd.prog w = .ok (.value (.float .f64 n.toNat)) w := by
  rw [run_callFunc_extern (fn := Tryd.f65) (by kernel_rfl) (by kernel_rfl) (by kernel_rfl) (by kernel_rfl) (e := Extern.MathFloatBits.float64frombits) (by kernel_rfl)]
  rfl

attribute [go_sem] run_bits run_from
theorem feq00 : Op.floatEq .f64 0 0 = true := by decide
@[go_sem] theorem run_equalIn_float {P : Program} (w : World) (d : Nat) (t : TypeId) (k : FloatKind) (a b : Nat) (h : P.underlying t = some (.float k)) : (Op.equalIn (d + 1) t (.float k a) (.float k b)).run P w = .ok (Op.floatEq k a b) w := by
  simp [Op.equalIn, run_underlying h]

structure ValT where
  kind : Int
  x : Nat
  s : ByteArray
  b : Bool
  f : Int
theorem boxV (w : World) (v : ValT) (T : TypeId) : ∃ w0, w.alloc (.cells #[.int .i64 v.kind, .float .f64 v.x, .string v.s, .bool v.b, .int .i64 v.f] T) = w0 ∧ Gr w w0 ∧ w0.heap.size = w.heap.size + 1 ∧ w0.cell? ⟨w.heap.size, 0, none⟩ = some (.int .i64 v.kind) ∧ w0.cell? ⟨w.heap.size, 1, none⟩ = some (.float .f64 v.x) ∧ w0.cell? ⟨w.heap.size, 2, none⟩ = some (.string v.s) ∧ w0.cell? ⟨w.heap.size, 3, none⟩ = some (.bool v.b) ∧ w0.cell? ⟨w.heap.size, 4, none⟩ = some (.int .i64 v.f) := by
  refine ⟨_, rfl, (Gr.refl _).alloc _, by simp, ?_, ?_, ?_, ?_, ?_⟩ <;> simp
abbrev valV (v : ValT) : Value := .agg #[.int .i64 v.kind, .float .f64 v.x, .string v.s, .bool v.b, .int .i64 v.f]
def noValB (v : ValT) : Bool := decide (v.kind = 0) && decide ((v.x : Int) = 0) && decide (v.s.toList = []) && !v.b && decide (v.f = 0)
set_option maxRecDepth 100000 in
set_option maxHeartbeats 2000000 in
theorem noValue_any (v : ValT) (w : World) :
    Calls Tryd.prog 26 #[valV v] w fun e w' => e = .returned (.bool (noValB v)) ∧ Gr w w' := by
  obtain ⟨w0, hw0, hg0, hs0, c0, c1, c2, c3, c4⟩ := boxV w v 32
  have HG0 := Lib.hid hg0
  clear hg0
  go_enter Tryd.func26, Tryd.ntmps26
  go_wp2_with fail
  all_goals (go_ret; refine ⟨?_, HG0.out⟩; first | (simp [noValB, *]; done) | (by_cases hx : v.x = 0 <;> simp_all [noValB, feq00]; done))
end Go.Proofs.YtakcadkffmfneaaDoor
namespace Go.Proofs.YtakcadkffmfneaaDoor
open Go.RowKit Go.Sort

def noNodeB (t : NodeT) : Bool := decide (t.kind = 0) && decide (t.op = 0) && decide ((t.x : Int) = 0) && decide (t.s.toList = []) && !t.b && decide (t.f = 0) &&
  (decide (t.ref.a.1 = 0) && decide (t.ref.a.2 = 0) && !t.ref.cf && !t.ref.rf) && (decide (t.to.a.1 = 0) && decide (t.to.a.2 = 0) && !t.to.cf && !t.to.rf) && ((t.args.length : Int) == 0)
set_option maxRecDepth 100000 in
set_option maxHeartbeats 4000000 in
theorem noNode_any (t : NodeT) (a : Option Addr) (cap : Nat) (w : World) :
    Calls Tryd.prog 27 #[nodeV t a t.args.length cap] w fun e w' => e = .returned (.bool (noNodeB t)) ∧ Gr w w' := by
  obtain ⟨w0, hw0, hg0, hs0, hN⟩ := boxN w t a t.args.length cap 37
  obtain ⟨c0, c1, c2, c3, c4, c5, c6, c7, c8, c9, c10, c11, c12, c13, c14⟩ := hN
  simp only [Nat.zero_add] at c0 c1 c2 c3 c4 c5 c6 c7 c8 c9 c10 c11 c12 c13 c14
  have HG0 := Lib.hid hg0
  clear hg0
  generalize hn : noNodeB t = ans
  have HA := Lib.hid hn
  clear hn
  go_enter Tryd.func27, Tryd.ntmps27
  go_wp2_with fail
  all_goals (go_ret; refine ⟨?_, HG0.out⟩; rw [← HA.out]; simp [noNodeB, *]; done)

/-! ### parts -/
def oneX (x : Nat) : Nat := if (FloatKind.format .f64).order x x != some .eq then 9221120237041090560 else x
theorem Nan_any (w : World) : Calls Tryd.prog 56 #[] w fun e w' => e = .returned (.float .f64 9221120237041090560) ∧ w = w' := by
  go_enter Tryd.func56, Tryd.ntmps56
  go_wp2_with fail
  go_ret
  exact ⟨rfl, rfl⟩
theorem One_any (x : Nat) (w : World) : Calls Tryd.prog 39 #[.float .f64 x] w fun e w' => e = .returned (.float .f64 (oneX x)) ∧ w = w' := by
  have hc := Nan_any w
  have HC := Lib.hid hc
  clear hc
  go_enter Tryd.func39, Tryd.ntmps39
  go_wp2_with (refine (HC.out).mono ?_; rintro e w' ⟨rfl, rfl⟩)
  all_goals (go_ret; refine ⟨?_, rfl⟩; simp [oneX, *]; done)
def signX (x : Nat) : Bool := decide (wrap64 x < 0)
theorem Signbit_any (x : Nat) (w : World) : Calls Tryd.prog 82 #[.float .f64 x] w fun e w' => e = .returned (.bool (signX x)) ∧ w = w' := by
  go_enter Tryd.func82, Tryd.ntmps82
  go_wp2_with fail
  go_ret
  refine ⟨?_, rfl⟩
  simp [signX]
def negX (x : Nat) : Bool := (FloatKind.format .f64).order x x == some .eq && signX x
theorem Negative_any (x : Nat) (w : World) : Calls Tryd.prog 67 #[.float .f64 x] w fun e w' => e = .returned (.bool (negX x)) ∧ w = w' := by
  have hc := Signbit_any x w
  have HC := Lib.hid hc
  clear hc
  go_enter Tryd.func67, Tryd.ntmps67
  go_wp2_with (refine (HC.out).mono ?_; rintro e w' ⟨rfl, rfl⟩)
  all_goals (go_ret; refine ⟨?_, rfl⟩; simp [negX, *]; done)
end Go.Proofs.YtakcadkffmfneaaDoor
namespace Go.Proofs.YtakcadkffmfneaaDoor
open Go.RowKit Go.Sort

/-! ### a slice of nodes whose blocks all have a property -/
def ArgsS (S : Nat → Prop) (w : World) : Nat → Value → List NodeT → Prop
  | 0, av, l => l = [] ∧ ∃ a cap, av = .slice a 0 cap ∧ cap ≤ 9223372036854775807
  | n + 1, av, l => ∃ a cap, av = .slice a l.length cap ∧ l.length ≤ cap ∧ cap ≤ 9223372036854775807 ∧ (l ≠ [] → ∃ b off, a = some ⟨b, off, none⟩ ∧ S b ∧ ∀ k t, l[k]? = some t → ∃ av', (∀ i u, (nodeC t av')[i]? = some u → w.cell? ⟨b, off + k * 15 + i, none⟩ = some u) ∧ ArgsS S w n av' t.args)
theorem ArgsS.args {S : Nat → Prop} {w : World} : ∀ {n : Nat} {av : Value} {l : List NodeT}, ArgsS S w n av l → ArgsIn w n av l
  | 0, _, _, h => h
  | n + 1, _, _, h => by
    obtain ⟨a, cap, rfl, h1, h2, h3⟩ := h
    refine ⟨a, cap, rfl, h1, h2, fun hne => ?_⟩
    obtain ⟨b, off, rfl, _, hc⟩ := h3 hne
    exact ⟨b, off, rfl, fun k t ht => let ⟨av', q1, q2⟩ := hc k t ht; ⟨av', q1, q2.args⟩⟩
theorem ArgsIn.toS {w : World} : ∀ {n : Nat} {av : Value} {l : List NodeT}, ArgsIn w n av l → ArgsS (fun b => b < w.heap.size) w n av l
  | 0, _, _, h => h
  | n + 1, _, _, h => by
    obtain ⟨a, cap, rfl, h1, h2, h3⟩ := h
    refine ⟨a, cap, rfl, h1, h2, fun hne => ?_⟩
    obtain ⟨b, off, rfl, hc⟩ := h3 hne
    obtain ⟨t0, r, rfl⟩ := List.exists_cons_of_ne_nil hne
    obtain ⟨av0, q0, _⟩ := hc 0 t0 rfl
    exact ⟨b, off, rfl, World.block_lt_of_cell? w _ (q0 0 _ rfl), fun k t ht => let ⟨av', q1, q2⟩ := hc k t ht; ⟨av', q1, q2.toS⟩⟩
theorem ArgsS.keep {S S' : Nat → Prop} {w w' : World} (hS : ∀ b, S b → b < w.heap.size → S' b) (hk : ∀ b o, S b → b < w.heap.size → w'.cell? ⟨b, o, none⟩ = w.cell? ⟨b, o, none⟩) : ∀ {n : Nat} {av : Value} {l : List NodeT}, ArgsS S w n av l → ArgsS S' w' n av l
  | 0, _, _, h => h
  | n + 1, _, _, h => by
    obtain ⟨a, cap, rfl, h1, h2, h3⟩ := h
    refine ⟨a, cap, rfl, h1, h2, fun hne => ?_⟩
    obtain ⟨b, off, rfl, hb, hc⟩ := h3 hne
    obtain ⟨t0, r, rfl⟩ := List.exists_cons_of_ne_nil hne
    obtain ⟨av0, q0, _⟩ := hc 0 t0 rfl
    have hlt : b < w.heap.size := World.block_lt_of_cell? w _ (q0 0 _ rfl)
    exact ⟨b, off, rfl, hS b hb hlt, fun k t ht => let ⟨av', q1, q2⟩ := hc k t ht; ⟨av', fun i u hu => (hk b _ hb hlt).trans (q1 i u hu), ArgsS.keep hS hk q2⟩⟩
/-! ### what a copy holds -/
mutual
def copyT : NodeT → NodeT
  | .mk k op x s b f r q args => .mk k op (oneX x) s b f r q (copyL args)
def copyL : List NodeT → List NodeT
  | [] => []
  | t :: r => copyT t :: copyL r
end
theorem copyL_map : ∀ l : List NodeT, copyL l = l.map copyT
  | [] => by simp [copyL]
  | t :: r => by simp only [copyL, List.map_cons, copyL_map r]
end Go.Proofs.YtakcadkffmfneaaDoor
namespace Go.Proofs.YtakcadkffmfneaaDoor
open Go.RowKit Go.Sort

/-! ### lists of rows, laid flat -/
theorem rflat_at {α β : Type} (f : α → List β) (m : Nat) (hf : ∀ x, (f x).length = m) : ∀ (l : List α) (k j : Nat) (x : α), l[k]? = some x → j < m → (l.flatMap f)[k * m + j]? = (f x)[j]?
  | y :: r, 0, j, x, h, hj => by
    simp only [List.getElem?_cons_zero, Option.some.injEq] at h
    subst h
    rw [List.flatMap_cons, Nat.zero_mul, Nat.zero_add, List.getElem?_append_left (by rw [hf]; exact hj)]
  | y :: r, k + 1, j, x, h, hj => by
    rw [List.flatMap_cons, Nat.succ_mul, List.getElem?_append_right (by rw [hf]; omega), hf]
    rw [show k * m + m + j - m = k * m + j by omega]
    exact rflat_at f m hf r k j x (by simpa using h) hj
theorem rflat_len {α β : Type} (f : α → List β) (m : Nat) (hf : ∀ x, (f x).length = m) : ∀ (l : List α), (l.flatMap f).length = l.length * m
  | [] => by simp
  | y :: r => by rw [List.flatMap_cons, List.length_append, hf, rflat_len f m hf r, List.length_cons, Nat.succ_mul]; omega
abbrev rowC (r : NodeT × Value) : List Value := nodeC r.1 r.2
theorem rowC_len (r : NodeT × Value) : (rowC r).length = 15 := rfl
end Go.Proofs.YtakcadkffmfneaaDoor
namespace Go.Proofs.YtakcadkffmfneaaDoor
open Go.RowKit Go.Sort Go.MapKept

/-! ### a row of structs that is written in place -/
theorem setCells_row (g : Nat) (T : TypeId) : ∀ (vs : List Value) (o : Nat) (w : World) (cur : Array Value), w.heap[g]? = some (.cells cur T (0, 0)) →
    ∃ cur', (w.setCells g o vs).heap[g]? = some (.cells cur' T (0, 0)) ∧ cur'.size = cur.size ∧ ∀ t, cur'[t]? = if o ≤ t ∧ t < o + vs.length ∧ t < cur.size then vs[t - o]? else cur[t]?
  | [], o, w, cur, h => ⟨cur, h, rfl, fun t => by rw [if_neg (by simp; omega)]⟩
  | v :: r, o, w, cur, h => by
    have h1 : (w.setCell ⟨g, o, none⟩ v).heap[g]? = some (.cells (cur.setIfInBounds o v) T (0, 0)) := by
      simp [World.setCell, Array.getElem?_modify, h]
    obtain ⟨cur', q1, q2, q3⟩ := setCells_row g T r (o + 1) _ _ h1
    refine ⟨cur', q1, by rw [q2]; simp, fun t => ?_⟩
    rw [q3 t]
    simp only [List.length_cons, Array.size_setIfInBounds]
    by_cases ht : t = o
    · subst ht
      rw [if_neg (by omega)]
      by_cases hc : t < cur.size
      · rw [if_pos (by omega), Nat.sub_self]; simp [hc]
      · rw [if_neg (by omega)]; simp [hc]
    · by_cases hb : o + 1 ≤ t ∧ t < o + 1 + r.length ∧ t < cur.size
      · rw [if_pos hb, if_pos (by omega)]
        obtain ⟨s, rfl⟩ : ∃ s, t = o + 1 + s := ⟨t - (o + 1), by omega⟩
        rw [show o + 1 + s - (o + 1) = s by omega, show o + 1 + s - o = s + 1 by omega]
        simp
      · rw [if_neg hb, if_neg (by omega), Array.getElem?_setIfInBounds_ne (by omega)]
theorem setCells_grown (g : Nat) : ∀ (vs : List Value) (o : Nat) (w : World), w.grownBy (w.setCells g o vs) (some g)
  | [], _, w => ⟨rfl, rfl, rfl, Nat.le_refl _, fun _ _ _ => rfl⟩
  | v :: r, o, w => by
    have h1 : w.grownBy (w.setCell ⟨g, o, none⟩ v) (some g) := ⟨rfl, rfl, rfl, by simp, fun k _ hk => Below.heap_setCell _ _ _ _ (fun e => hk (by rw [e]))⟩
    have h2 := setCells_grown g r (o + 1) (w.setCell ⟨g, o, none⟩ v)
    exact ⟨h2.os.trans h1.os, h2.tape.trans h1.tape, h2.output.trans h1.output, Nat.le_trans h1.size h2.size, fun k hk hne => (h2.block k (by simpa using hk) hne).trans (h1.block k hk hne)⟩
section
variable {α : Type} {enc : α → List Value} {k : Nat}
/-- Block g is a row with room for cap elements; the first ones are these. -/
def RowL (w : World) (g : Nat) (T : TypeId) (cap k : Nat) (enc : α → List Value) (d : List α) : Prop :=
  ∃ cur : Array Value, w.heap[g]? = some (.cells cur T (0, 0)) ∧ cur.size = cap * k ∧ d.length ≤ cap ∧ ∀ j x, d[j]? = some x → ∀ i u, (enc x)[i]? = some u → cur[j * k + i]? = some u
theorem RowL.of_own {w : World} {base : Nat} {T : TypeId} {v : Value} {l : List α} (h : OwnL w base T k enc v l) (hk : ∀ x, (enc x).length = k) (hl : l ≠ []) : ∃ g cap, v = .slice (some ⟨g, 0, none⟩) l.length cap ∧ base ≤ g ∧ cap ≤ maxLen ∧ RowL w g T cap k enc l := by
  rcases h.2 with ⟨rfl, h0⟩ | ⟨g, cap, cur, rfl, hb, hg, hn, hc, hs, ht⟩
  · exact absurd (List.length_eq_zero_iff.1 h0) hl
  · refine ⟨g, cap, rfl, hb, hc, cur, hg, hs, hn, fun j x hx i u hu => ?_⟩
    have hi : i < k := by rw [← hk x]; exact (List.getElem?_eq_some_iff.1 hu).1
    have hf := flat_get hk l j i x hx hi
    rw [hu, ← ht, List.getElem?_take] at hf
    split at hf
    · simpa using hf
    · cases hf
theorem RowL.own {w : World} {g : Nat} {T : TypeId} {cap : Nat} {d : List α} (h : RowL w g T cap k enc d) (hk : ∀ x, (enc x).length = k) (hc : cap ≤ maxLen) {base : Nat} (hb : base ≤ g) (m : Nat) (hm : m ≤ d.length) :
    OwnL w base T k enc (.slice (some ⟨g, 0, none⟩) m cap) (d.take m) := by
  obtain ⟨cur, hg, hs, hd, hc2⟩ := h
  have hml : (d.take m).length = m := by rw [List.length_take]; omega
  refine ⟨by rw [flat_len hk], Or.inr ⟨g, cap, cur, by rw [hml], hb, hg, by omega, hc, hs, ?_⟩⟩
  rw [hml]
  apply List.ext_getElem?
  intro t
  rw [List.getElem?_take]
  by_cases ht : t < m * k
  · have k0 : 0 < k := by rcases Nat.eq_zero_or_pos k with h | h; · subst h; simp at ht
                          · exact h
    have hj : t / k < m := by rw [Nat.div_lt_iff_lt_mul k0]; exact ht
    have hi : t % k < k := Nat.mod_lt _ k0
    obtain ⟨x, hx⟩ : ∃ x, d[t / k]? = some x := ⟨d[t / k]'(by omega), by simp⟩
    have hf := flat_get hk (d.take m) (t / k) (t % k) x (by rw [List.getElem?_take, if_pos hj]; exact hx) hi
    rw [Nat.div_add_mod' t k] at hf
    have hl2 : t % k < (enc x).length := by rw [hk]; exact hi
    have := hc2 (t / k) x hx (t % k) _ (List.getElem?_eq_getElem hl2)
    rw [Nat.div_add_mod' t k] at this
    rw [if_pos ht, hf, List.getElem?_eq_getElem hl2]
    simpa using this
  · rw [if_neg ht, List.getElem?_eq_none (by rw [flat_len hk, hml]; omega)]
theorem RowL.cell {w : World} {g : Nat} {T : TypeId} {cap : Nat} {d : List α} (h : RowL w g T cap k enc d) {j : Nat} {x : α} (hx : d[j]? = some x) : ∀ i u, (enc x)[i]? = some u → w.cell? ⟨g, j * k + i, none⟩ = some u := by
  obtain ⟨cur, hg, hs, hd, hc⟩ := h
  intro i u hu
  rw [cell_of_row w g _ cur T (0, 0) hg]
  exact hc j x hx i u hu
theorem RowL.has {w : World} {g : Nat} {T : TypeId} {cap : Nat} {d : List α} (h : RowL w g T cap k enc d) {o : Nat} (ho : o < cap * k) : (w.cell? ⟨g, o, none⟩).isSome = true := by
  obtain ⟨cur, hg, hs, _⟩ := h
  rw [cell_of_row w g _ cur T (0, 0) hg, Array.getElem?_eq_getElem (by rw [hs]; exact ho)]; rfl
theorem RowL.froz {w : World} {g : Nat} {T : TypeId} {cap : Nat} {d : List α} (h : RowL w g T cap k enc d) (o : Nat) : w.frozen? ⟨g, o, none⟩ = false := by
  obtain ⟨cur, hg, _⟩ := h
  simp [World.frozen?, hg]
theorem RowL.of_heap {w w' : World} {g : Nat} {T : TypeId} {cap : Nat} {d : List α} (h : RowL w g T cap k enc d) (hb : w'.heap[g]? = w.heap[g]?) : RowL w' g T cap k enc d := by
  obtain ⟨cur, hg, r⟩ := h
  exact ⟨cur, hb.trans hg, r⟩
theorem RowL.set {w : World} {g : Nat} {T : TypeId} {cap : Nat} {d : List α} (h : RowL w g T cap k enc d) (hk : ∀ x, (enc x).length = k) {j : Nat} (hj : j < d.length) (y : α) : RowL (w.setCells g (j * k) (enc y)) g T cap k enc (d.set j y) := by
  obtain ⟨cur, hg, hs, hd, hc⟩ := h
  obtain ⟨cur', q1, q2, q3⟩ := setCells_row g T (enc y) (j * k) w cur hg
  refine ⟨cur', q1, q2.trans hs, by simpa using hd, fun i x hx t u hu => ?_⟩
  have ht : t < k := by rw [← hk x]; exact (List.getElem?_eq_some_iff.1 hu).1
  have hjk : j * k + k ≤ cap * k := by have := Nat.mul_le_mul_right k (show j + 1 ≤ cap by omega); rwa [Nat.add_mul, Nat.one_mul] at this
  rw [q3, hk y]
  rw [List.getElem?_set] at hx
  by_cases hij : j = i
  · subst hij
    rw [if_pos rfl, if_pos hj] at hx
    cases hx
    rw [if_pos (by omega), show j * k + t - j * k = t by omega]
    exact hu
  · rw [if_neg hij] at hx
    rw [if_neg]
    · exact hc i x hx t u hu
    · rintro ⟨h1, h2, _⟩
      rcases Nat.lt_or_ge i j with h3 | h3
      · have := Nat.mul_le_mul_right k (show i + 1 ≤ j from h3); rw [Nat.add_mul, Nat.one_mul] at this; omega
      · have := Nat.mul_le_mul_right k (show j + 1 ≤ i by omega); rw [Nat.add_mul, Nat.one_mul] at this; omega
/-- The first m stay when cells from m on are written. -/
theorem RowL.tail {w : World} {g : Nat} {T : TypeId} {cap : Nat} {d : List α} (h : RowL w g T cap k enc d) (hk : ∀ x, (enc x).length = k) (m : Nat) (vs : List Value) : RowL (w.setCells g (m * k) vs) g T cap k enc (d.take m) := by
  obtain ⟨cur, hg, hs, hd, hc⟩ := h
  obtain ⟨cur', q1, q2, q3⟩ := setCells_row g T vs (m * k) w cur hg
  refine ⟨cur', q1, q2.trans hs, by rw [List.length_take]; omega, fun i x hx t u hu => ?_⟩
  have ht : t < k := by rw [← hk x]; exact (List.getElem?_eq_some_iff.1 hu).1
  rw [List.getElem?_take] at hx
  split at hx
  · rename_i him
    have := Nat.mul_le_mul_right k (show i + 1 ≤ m from him); rw [Nat.add_mul, Nat.one_mul] at this
    rw [q3, if_neg (by omega)]
    exact hc i x hx t u hu
  · cases hx
theorem RowL.app {w : World} {g : Nat} {T : TypeId} {cap : Nat} {d : List α} {cur : Array Value} (hk : ∀ x, (enc x).length = k) (hg : w.heap[g]? = some (.cells cur T (0, 0))) (hs : cur.size = cap * k)
    (hc : ∀ j x, d[j]? = some x → ∀ i u, (enc x)[i]? = some u → cur[j * k + i]? = some u) (i : Nat) (hi : i ≤ d.length) (e : List α) (he : i + e.length ≤ cap) :
    RowL (w.setRow g (cur.toList.take (i * k) ++ e.flatMap enc ++ cur.toList.drop (i * k + (e.flatMap enc).length)).toArray) g T cap k enc (d.take i ++ e) := by
  have hfl := flat_len hk e
  have hle : i * k + e.length * k ≤ cap * k := by rw [← Nat.add_mul]; exact Nat.mul_le_mul_right _ he
  have htl : (cur.toList.take (i * k)).length = i * k := by rw [List.length_take]; simp; omega
  have hil : (d.take i).length = i := by rw [List.length_take]; omega
  refine ⟨_, setRow_heap w g cur _ T _ hg, ?_, by rw [List.length_append, hil]; exact he, fun j x hx t u hu => ?_⟩
  · simp only [List.size_toArray, List.length_append, htl, hfl, List.length_drop, Array.length_toList]; omega
  · have ht : t < k := by rw [← hk x]; exact (List.getElem?_eq_some_iff.1 hu).1
    simp only [List.getElem?_toArray]
    by_cases hji : j < i
    · have h1 : j * k + t < i * k := by have := Nat.mul_le_mul_right k (show j + 1 ≤ i from hji); rw [Nat.add_mul, Nat.one_mul] at this; omega
      rw [List.append_assoc, List.getElem?_append_left (by rw [htl]; exact h1), List.getElem?_take, if_pos h1]
      rw [List.getElem?_append_left (by rw [hil]; exact hji), List.getElem?_take, if_pos hji] at hx
      simpa using hc j x hx t u hu
    · rw [List.getElem?_append_right (by rw [hil]; omega), hil] at hx
      have hje : j - i < e.length := (List.getElem?_eq_some_iff.1 hx).1
      obtain ⟨m, rfl⟩ : ∃ m, j = i + m := ⟨j - i, by omega⟩
      rw [show i + m - i = m by omega] at hx hje
      have h2 : (i + m) * k + t = i * k + (m * k + t) := by rw [Nat.add_mul]; omega
      have h3 : m * k + t < e.length * k := by have := Nat.mul_le_mul_right k (show m + 1 ≤ e.length from hje); rw [Nat.add_mul, Nat.one_mul] at this; omega
      rw [h2, List.append_assoc, List.getElem?_append_right (by rw [htl]; omega), htl, show i * k + (m * k + t) - i * k = m * k + t by omega, List.getElem?_append_left (by rw [hfl]; exact h3), flat_get hk e m t x hx ht]
      exact hu
end
section
variable {P : Program} (w : World) {ops : Array Oper} {rest : List Oper} {o : Oper} {a : Act} {Q : Exit → Act → World → Prop}
/-- 'append' within the row's own room, whatever lies where. -/
theorem wpList_append_in (hgd : o.guard = none) (s x : Operand) (t : TypeId) (ho : o.op = .call { callee := .builtin .append, args := #[s, x], argTypes := #[t, t] }) (e : TypeId) (i : TypeInfo) (ht : P.underlying t = some (.slice e)) (hi : P.info? e = some i)
    (g sLen sCap : Nat) (cur : Array Value) (hg : w.heap[g]? = some (.cells cur e (0, 0))) (ad : Addr) (m c : Nat) (news : List Value) (hl : news.length = m * i.size) (hnews : ∀ j u, news[j]? = some u → w.cell? (ad.add j) = some u) (h1 : ∀ u ∈ news, u.oneCell' = true)
    (hroom : sLen + m ≤ sCap) (hfit : sLen * i.size + news.length ≤ cur.size) (hs : a.eval s = .slice (some ⟨g, 0, none⟩) sLen sCap) (hx : a.eval x = .slice (some ad) m c)
    (hK : wpList P ops Q rest (a.put o.dst (.slice (some ⟨g, 0, none⟩) (sLen + m) sCap)) (w.setRow g (cur.toList.take (sLen * i.size) ++ news ++ cur.toList.drop (sLen * i.size + news.length)).toArray)) : wpList P ops Q (o :: rest) a w := by
  refine wpList_plain hgd fun K' hK' => ?_
  have hr := run_append_room (P := P) w t o.type e i ht hi g sLen sCap cur hg ad m c news hl hnews h1 hroom hfit
  unfold Oper.wp execOp
  simp only [ho, resolve, invoke, builtin, Sem.run_bind, Sem.run_pure, Result.andThen_ok, List.map_toArray, List.map_cons, List.map_nil, hs, hx, hr]
  exact hK' _ _ hK
end
theorem run_clear_k {P : Program} (w : World) (t e ty : TypeId) (z : Value) (ht : P.underlying t = some (.slice e)) (hv : ∀ w, (zeroValue e).run P w = .ok z w) (b o n c : Nat) (hn : 0 < n) (h1 : ∀ v ∈ z.cells, v.oneCell' = true)
    (hc : ∀ j, j < n * z.cells.size → (w.cell? ⟨b, o + j, none⟩).isSome = true) (hf : ∀ j, j < n * z.cells.size → w.frozen? ⟨b, o + j, none⟩ = false) :
    (Builtin.clear_ #[t] ty #[.slice (some ⟨b, o, none⟩) n c]).run P w = .ok (.tuple #[]) (w.setCells b o (Builtin.zeroCells z.cells n).toList) := by
  have hst := run_storeCells_cells (P := P) b o (Builtin.zeroCells z.cells n).toList 0 w (by simpa [Builtin.zeroCells] using hc) (by simpa [Builtin.zeroCells] using hf) (by
    intro v hv'
    simp only [Builtin.zeroCells, Array.toList_map, List.mem_map, Array.toList_range, List.mem_range] at hv'
    obtain ⟨i, hi, rfl⟩ := hv'
    have hp : 0 < z.cells.size := by rcases Nat.eq_zero_or_pos z.cells.size with h | h; · rw [h] at hi; simp at hi
                                     · exact h
    rw [getElem!_pos z.cells _ (Nat.mod_lt _ hp)]
    exact h1 _ (Array.getElem_mem _))
  simp only [Nat.add_zero] at hst
  obtain ⟨m, rfl⟩ : ∃ m, n = m + 1 := ⟨n - 1, by omega⟩
  simp [Builtin.clear_, run_underlying ht, hv, hst]
end Go.Proofs.YtakcadkffmfneaaDoor
namespace Go.Proofs.YtakcadkffmfneaaDoor
open Go.RowKit Go.Sort

/-! ### append, and where what it leaves lies -/
section
variable {P : Program}
theorem run_append_where (w : World) (t ty e : TypeId) (i : TypeInfo) (z : Value) (size bytes : Nat) (ht : P.underlying t = some (.slice e)) (hi : P.info? e = some i) (hz : i.zero = some z)
    (hsize : i.size = size) (hby : i.bytes = bytes) (hzs : z.cells.size = size) (hsz : 0 < size)
    (v : Value) (n : Nat) (xs : List Value) (hown : w.ownsRow 0 e size v n xs)
    (a : Addr) (m c : Nat) (news : List Value) (hl : news.length = m * size) (hnews : ∀ j u, news[j]? = some u → w.cell? (a.add j) = some u) (h1 : ∀ u ∈ news, u.oneCell' = true)
    (h63 : n + m ≤ maxLen) (hbytes : (n + m) * bytes ≤ 140737488355328) :
    ∃ v' w', (Builtin.append_ #[t, t] ty #[v, .slice (some a) m c]).run P w = .ok v' w' ∧ w'.ownsRow 0 e size v' (n + m) (xs ++ news) ∧ w.grownBy w' v.ownBlock ∧
      (v'.ownBlock = v.ownBlock ∨ ∀ g, v'.ownBlock = some g → w.heap.size ≤ g) := by
  obtain ⟨v', w', hr, h2, h3, h4⟩ := run_append_own (P := P) w 0 t ty e i z size bytes ht hi hz hsize hby hzs hsz v n xs hown a m c news hl hnews h1 h63 hbytes (Nat.zero_le _)
  refine ⟨v', w', hr, h2, h3, ?_⟩
  rcases hown.2 with ⟨rfl, rfl⟩ | ⟨g, cap, cur, rfl, hbg, hg, hnc, hcm, hcs, htake⟩
  · have hx : xs = [] := List.eq_nil_of_length_eq_zero (by simpa using hown.1)
    subst hx
    obtain ⟨v2, w2, hr2, k2, k3, k4⟩ := run_append_own (P := P) w w.heap.size t ty e i z size bytes ht hi hz hsize hby hzs hsz (.slice none 0 0) 0 [] (World.ownsRow_nil _ _ _ _) a m c news hl hnews h1 h63 hbytes (Nat.le_refl _)
    rw [hr] at hr2
    cases hr2
    exact Or.inr fun g hg => (World.ownsRow.lt k2 g hg).1
  · subst hsize hby
    have hsmall : n + m ≤ 9223372036854775807 := by simp only [maxLen] at h63; omega
    by_cases hroom : n + m ≤ cap
    · have hfit : n * i.size + news.length ≤ cur.size := by rw [hl, hcs, ← Nat.add_mul]; exact Nat.mul_le_mul_right _ hroom
      have hr2 := run_append_room (P := P) w t ty e i ht hi g n cap cur hg a m c news hl hnews h1 hroom hfit
      rw [hr] at hr2
      cases hr2
      exact Or.inl rfl
    · have holds : ∀ j u, xs[j]? = some u → w.cell? ((⟨g, 0, none⟩ : Addr).add j) = some u := hown.cells (g := g) rfl
      have hr2 := run_append_grow (P := P) w t ty e i z ht hi hz ⟨g, 0, none⟩ n cap xs hown.1 holds a m c news hl hnews (by omega) (by omega) (growslice_fits (by omega) hbytes)
      rw [hr] at hr2
      cases hr2
      exact Or.inr fun q hq => by cases hq; exact Nat.le_refl _
theorem wpList_append_where (w : World) {ops : Array Oper} {rest : List Oper} {o : Oper} {a : Act} {Q : Exit → Act → World → Prop} (hgd : o.guard = none) (s x : Operand) (t : TypeId)
    (ho : o.op = .call { callee := .builtin .append, args := #[s, x], argTypes := #[t, t] })
    (e : TypeId) (i : TypeInfo) (z : Value) (size bytes : Nat) (ht : P.underlying t = some (.slice e)) (hi : P.info? e = some i) (hz : i.zero = some z)
    (hsize : i.size = size) (hby : i.bytes = bytes) (hzs : z.cells.size = size) (hsz : 0 < size)
    (v : Value) (n : Nat) (xs : List Value) (hs : a.eval s = v) (hown : w.ownsRow 0 e size v n xs)
    (ad : Addr) (m c : Nat) (news : List Value) (hx : a.eval x = .slice (some ad) m c) (hl : news.length = m * size) (hnews : ∀ j u, news[j]? = some u → w.cell? (ad.add j) = some u) (h1 : ∀ u ∈ news, u.oneCell' = true)
    (h63 : n + m ≤ maxLen) (hbytes : (n + m) * bytes ≤ 140737488355328)
    (h : ∀ v' w', w'.ownsRow 0 e size v' (n + m) (xs ++ news) → w.grownBy w' v.ownBlock → (v'.ownBlock = v.ownBlock ∨ ∀ g, v'.ownBlock = some g → w.heap.size ≤ g) → wpList P ops Q rest (a.put o.dst v') w') : wpList P ops Q (o :: rest) a w := by
  refine wpList_plain hgd fun K' hK' => ?_
  obtain ⟨v', w', hr, h2, h3, h4⟩ := run_append_where (P := P) w t o.type e i z size bytes ht hi hz hsize hby hzs hsz v n xs hown ad m c news hl hnews h1 h63 hbytes
  unfold Oper.wp execOp
  simp only [ho, resolve, invoke, builtin, Sem.run_bind, Sem.run_pure, Result.andThen_ok, List.map_toArray, List.map_cons, List.map_nil, hs, hx, hr]
  exact hK' _ _ (h v' w' h2 h3 h4)
end
end Go.Proofs.YtakcadkffmfneaaDoor
