import Derived.Test.YtdoeejhdenifpaaGreatDoorB20
import Derived.Test.YtdoeejhdenifpaaGreatDoorB21
set_option maxRecDepth 100000
set_option maxHeartbeats 16000000
namespace Go.Proofs.YtdoeejhdenifpaaGreatDoor
section
open Go.RowKit Go.Sort
theorem jWc : (FloatKind.format .f64).order 9221120237041090560 9221120237041090560 != some .eq := by decide +kernel
theorem jaa (x : Nat) : oneX x = x \/ (oneX x = 9221120237041090560 /\ ((FloatKind.format .f64).order x x != some .eq) = true) := by
 unfold oneX;cases h : ((FloatKind.format .f64).order x x != some .eq)
 . exact Or.inl rfl
 . exact Or.inr ⟨rfl, rfl⟩
theorem jKS (x : Nat) : oneX (oneX x) = oneX x := by
 rcases jaa x with h | ⟨h, _⟩
 . rw [h, h]
 . rw [h]; unfold oneX; rw [if_pos jWc]
theorem yRk (x : Nat) : j2G (oneX x) = j2G x := by
 rcases jaa x with h | ⟨h, h2⟩
 . rw [h]
 . rw [h];have e1 : j2G 9221120237041090560 = 1 := (by unfold j2G ordX; rw [if_pos jWc]);have e2 : j2G x = 1 := (by unfold j2G ordX; rw [if_pos h2]);rw [e1, e2]
theorem ykO {a : Option Ordering} (h : (a != some .eq) = true) : (a == some .eq) = false := by
 cases a with
 | none => rfl
 | some o => cases o <;> first | rfl | (exact absurd h (by decide))
theorem zKJ (x : Nat) : negX (oneX x) = negX x := by
 rcases jaa x with h | ⟨h, h2⟩
 . rw [h]
 . rw [h]; unfold negX; rw [ykO h2, ykO jWc, Bool.false_and, Bool.false_and]
theorem yz1 : ((FloatKind.format .f64).order 0 0 != some .eq) = false := by decide +kernel
theorem yrW (x : Nat) : oneX x = 0 ↔ x = 0 := by
 rcases jaa x with h | ⟨h, h2⟩
 . rw [h]
 . rw [h];constructor
   . intro e; exact absurd e (by decide)
   . rintro rfl; rw [yz1] at h2; cases h2
mutual
theorem yM2 : ∀ t : NodeT, copyT (copyT t) = copyT t
 | .mk k op x s b f r q args => by simp only [copyT, jKS, zvm args]
theorem zvm : ∀ l : List NodeT, jEz (jEz l) = jEz l
 | [] => rfl
 | t :: r => by simp only [jEz, yM2 t, zvm r]
end
theorem j6d (l : List NodeT) : (jEz l).length = l.length := by rw [j3y]; simp
mutual
theorem y5F : ∀ t : NodeT, zAv (copyT t) = zAv t
 | .mk k op x s b f r q args => by simp only [copyT, zAv, zka args]
theorem zka : ∀ (l : List NodeT) (n d : Int), jHU (jEz l) n d = jHU l n d
 | [], n, d => rfl
 | t :: r, n, d => by simp only [jEz, jHU, y5F t, zka r]
end
theorem y7S (t u : NodeT) : zmd t u = true ↔ t.kind = u.kind /\ t.op = u.op /\ ((oneX t.x : Nat) : Int) = ((oneX u.x : Nat) : Int) /\ t.s.toList = u.s.toList /\ t.b = u.b /\ t.f = u.f /\ refB t.ref u.ref = true /\ refB t.to u.to = true := by
 unfold zmd;simp only [Bool.and_eq_true, decide_eq_true_eq, and_assoc]
theorem zTc (k op : Int) (x y : Nat) (s : ByteArray) (b : Bool) (f : Int) (r q : RefT) (args : List NodeT) (t : NodeT) (h : oneX x = oneX y) : zmd t (.mk k op x s b f r q args) = zmd t (.mk k op y s b f r q args) := by
 rw [Bool.eq_iff_iff, y7S, y7S]
 show (_ /\ _ /\ _ = ((oneX x : Nat) : Int) /\ _) ↔ (_ /\ _ /\ _ = ((oneX y : Nat) : Int) /\ _)
 rw [h]; exact Iff.rfl
theorem jcW (k op : Int) (x y : Nat) (s : ByteArray) (b : Bool) (f : Int) (r q : RefT) (a1 a2 : List NodeT) (t : NodeT) (h : oneX x = oneX y) : zmd (.mk k op x s b f r q a1) t = zmd (.mk k op y s b f r q a2) t := by
 rw [Bool.eq_iff_iff, y7S, y7S]
 show (_ /\ _ /\ ((oneX x : Nat) : Int) = _ /\ _) ↔ (_ /\ _ /\ ((oneX y : Nat) : Int) = _ /\ _)
 rw [h]; exact Iff.rfl
theorem zUx (t : NodeT) : zGb (copyT t) = zGb t := by
 obtain ⟨k, op, x, s, b, f, r, q, args⟩ := t;have hl := fun u => jcW k op (oneX x) x s b f r q (jEz args) args u (jKS x);simp only [copyT, zGb, yRk, zKJ, j6d, hl];rw [zTc 1 0 (oneX x) x ⟨#[]⟩ false 0 zR zR [] _ (jKS x)]
mutual
theorem yI6 : ∀ (t : NodeT) (i : Bool), yG3 (copyT t) i = yG3 t i
 | .mk k op x s b f r q args, i => by
  have hm := zUx (.mk k op x s b f r q args);simp only [copyT] at hm ⊢;rw [yG3, yG3, hm, zEC args, j6d]
theorem zEC : ∀ (l : List NodeT) (c : Bool), ziB (jEz l) c = ziB l c
 | [], c => rfl
 | t :: r, c => by rw [jEz, ziB, ziB, yI6 t, zEC r]
end
theorem j8b (t : NodeT) : ywH (copyT t) = ywH t := by unfold ywH; rw [y5F, yI6]
theorem yS3 (x : Nat) : decide (((oneX x : Nat) : Int) = 0) = decide ((x : Int) = 0) := by
 have h := yrW x;rw [decide_eq_decide]; omega
theorem zou (t : NodeT) : z88 (copyT t) = z88 t := by
 unfold z88;rw [jEi, zCL, j1J, y5o, jbm, zoN, zKL, zJM, copyT_len, yS3]
theorem yCi (v : ValT) : yDi { v with x := oneX v.x } = yDi v := by unfold yDi; simp only [yS3]
theorem zJR (v : ValT) : jWy { v with x := oneX v.x } = jWy v := by unfold jWy yKr; simp only [yS3]
theorem yuh (c : ContT) : yQy (jNS c) = yQy c := by
 unfold yQy jNS;simp only [yCi, zou, zJR, j8b]
theorem ydh (c : ContT) : jNS (jNS c) = jNS c := by unfold jNS; simp only [jKS, yM2]
theorem yvN {x : Nat} (h : x < 18446744073709551616) : oneX x < 18446744073709551616 := by unfold oneX; split <;> omega
mutual
theorem zKI : ∀ t : NodeT, t.ok -> (copyT t).ok
 | .mk k op x s b f r q args, h => by simp only [copyT, NodeT.ok] at h ⊢; exact ⟨h.1, yvN h.2.1, zqT args h.2.2⟩
theorem zqT : ∀ l : List NodeT, okL l -> okL (jEz l)
 | [], h => h
 | t :: r, h => by simp only [jEz, okL] at h ⊢; exact ⟨zKI t h.1, zqT r h.2⟩
end
theorem jvQ {c : ContT} (h : c.ok) : (jNS c).ok := ⟨h.1, zKI _ h.2.1, yvN h.2.2⟩
section
variable {α : Type}
theorem z9Q {a : Ad} {l : α} : ∀ {M : List (Ad × α)}, lkM a M = none -> (setM a l M).length = M.length + 1
 | [], _ => by simp [setM]
 | x :: r, h => by
  unfold lkM at h;by_cases hx : x.1 = a
  . simp [hx] at h
  . rw [if_neg hx] at h;unfold setM;rw [if_neg hx];split
    . simp
    . simp [z9Q h]
end
structure Full (wd n : Nat) (M : GM) : Prop where
 sorted : yJ0 M
 len : M.length = n
 keys : ∀ x ∈ M, 1 <= x.1.1 /\ x.1.1 <= wd /\ 1 <= x.1.2 /\ (x.1.2 - 1).toNat * wd + (x.1.1 - 1).toNat < n
 one : 0 < n -> (lkM (1, 1) M).isSome = true
theorem Full.no {wd n : Nat} {M : GM} (h : Full wd n M) {a : Ad} (ha : n <= (a.2 - 1).toNat * wd + (a.1 - 1).toNat) : lkM a M = none := lkM_none.2 fun x hx e => by
 have := (h.keys x hx).2.2.2;rw [e] at this; omega
theorem Full.put {wd n : Nat} {M : GM} (h : Full wd n M) {r c : Nat} (hc : c < wd) (hn : n = r * wd + c) (x : CE) : Full wd (n + 1) (setM ((c : Int) + 1, (r : Int) + 1) x M) := by
 have hno : lkM ((c : Int) + 1, (r : Int) + 1) M = none := h.no (by
  rw [show ((r : Int) + 1 - 1).toNat = r by omega, show ((c : Int) + 1 - 1).toNat = c by omega]; omega)
 refine ⟨zDO _ _ h.sorted, by rw [z9Q hno, h.len], fun y hy => ?_, fun _ => ?_⟩
 . rcases yla hy with rfl | hy
   . refine ⟨by show (1 : Int) <= (c : Int) + 1; omega, by show (c : Int) + 1 <= (wd : Int); omega, by show (1 : Int) <= (r : Int) + 1; omega, ?_⟩
     show ((r : Int) + 1 - 1).toNat * wd + ((c : Int) + 1 - 1).toNat < n + 1
     rw [show ((r : Int) + 1 - 1).toNat = r by omega, show ((c : Int) + 1 - 1).toNat = c by omega]; omega
   . have := h.keys y hy; omega
 . rw [yhX];by_cases hn0 : 0 < n
   . split
     . rfl
     . exact h.one hn0
   . have hz : r * wd = 0 /\ c = 0 := (by omega);have hr : r = 0 := by
      rcases Nat.mul_eq_zero.1 hz.1 with h | h
      . exact h
      . omega
     rw [hr, hz.2];simp
abbrev PG := List (Ad × ContT)
def er (M : GM) : PG := M.map fun x => (x.1, x.2.1)
theorem er_lk (a : Ad) : ∀ M : GM, lkM a (er M) = (lkM a M).map (·.1)
 | [] => rfl
 | x :: r => by
  have ih := er_lk a r;unfold er at ih ⊢;rw [List.map_cons, lkM, lkM];by_cases h : x.1 = a
  . simp [h]
  . simp only [h, if_false]; exact ih
theorem er_set (a : Ad) (c : ContT) (p : Option Addr) : ∀ M : GM, er (setM a (c, p) M) = setM a c (er M)
 | [] => rfl
 | x :: r => by
  have ih := er_set a c p r;unfold er at ih ⊢;rw [List.map_cons, setM, setM];by_cases h : x.1 = a
  . simp [h]
  . simp only [h, if_false];by_cases h2 : adLt a x.1 = true
    . simp [h2]
    . simp only [h2, Bool.false_eq_true, if_false, List.map_cons, ih]
theorem er_del (a : Ad) (M : GM) : er (delM a M) = delM a (er M) := by
 unfold er delM;rw [List.filter_map];rfl
theorem er_len (M : GM) : (er M).length = M.length := by simp [er]
def jAG (P : PG) (a : Ad) : Bool := !(lkM a P).isSome && decide (4096 <= P.length)
def jJz (P : PG) (a : Ad) (c : ContT) : Int := if yQy c = false then 1 else if y8L a.1 a.2 = false then 20 else if (c.kind == 0) = true then 0 else if jAG P a = true then 41 else 0
def putP (P : PG) (a : Ad) (c : ContT) : PG := if yQy c = false then P else if y8L a.1 a.2 = false then P else if (c.kind == 0) = true then delM a P else if jAG P a = true then P else setM a (jNS c) P
theorem zX2 (M : GM) (a : Ad) : j6H M a = jAG (er M) a := by unfold j6H jAG; rw [er_lk, er_len]; simp
theorem ycU (M : GM) (a : Ad) (c : ContT) : zWI M a c = jJz (er M) a c := by unfold zWI jJz; rw [zX2]
theorem yZx (M : GM) (a : Ad) (c : ContT) (x : Option Addr) : er (j4E M a c x) = putP (er M) a c := by
 unfold j4E putP;rw [zX2];split
 . rfl
 split
 . rfl
 split
 . exact er_del a M
 split
 . rfl
 . exact er_set a (jNS c) x M
structure GOk (P : PG) : Prop where
 sorted : yJ0 P
 many : P.length <= 4096
 each : ∀ x ∈ P, y8L x.1.1 x.1.2 = true /\ yQy x.2 = true /\ (x.2.kind == 0) = false /\ jNS x.2 = x.2 /\ x.2.ok
theorem GOk.nil : GOk [] := ⟨List.Pairwise.nil, by simp, fun x hx => by cases hx⟩
theorem GOk.del {P : PG} (h : GOk P) (a : Ad) : GOk (delM a P) := ⟨zES a h.sorted, Nat.le_trans (List.length_filter_le ..) h.many, fun x hx => h.each x (List.mem_filter.1 hx).1⟩
theorem GOk.set {P : PG} (h : GOk P) {a : Ad} {c : ContT} (hf : jAG P a = false) (hv : y8L a.1 a.2 = true) (hg : yQy c = true) (hk : (c.kind == 0) = false) (hok : c.ok) : GOk (setM a (jNS c) P) := by
 refine ⟨zDO a _ h.sorted, ?_, fun x hx => ?_⟩
 . unfold jAG at hf;cases hl : lkM a P with
   | none =>
    rw [z9Q hl];rw [hl] at hf;simp only [Option.isSome_none, Bool.not_false, Bool.true_and, decide_eq_false_iff_not] at hf;omega
   | some y =>
    rw [zzR h.sorted (by rw [hl]; rfl)];exact h.many
 . rcases yla hx with rfl | hx
   . exact ⟨hv, (yuh c).trans hg, hk, ydh c, jvQ hok⟩
   . exact h.each x hx
theorem GOk.put {P : PG} (h : GOk P) (a : Ad) {c : ContT} (hok : c.ok) : GOk (putP P a c) := by
 unfold putP;cases h1 : yQy c
 . exact h
 cases h2 : y8L a.1 a.2
 . exact h
 cases h3 : (c.kind == 0)
 . simp only [Bool.true_eq_false, Bool.false_eq_true, if_false];cases h4 : jAG P a
   . exact h.set h4 h2 h1 h3 hok
   . exact h
 . exact h.del a
theorem zd2 {α : Type} {a : Ad} {v : α} : ∀ {M : List (Ad × α)}, lkM a M = none -> (setM a v M).Perm ((a, v) :: M)
 | [], _ => List.Perm.refl _
 | x :: r, h => by
  unfold lkM at h;by_cases hx : x.1 = a
  . simp [hx] at h
  . simp only [hx, if_false] at h;unfold setM;simp only [hx, if_false];by_cases h2 : adLt a x.1 = true
    . simp only [h2, if_true]; exact List.Perm.refl _
    . simp only [h2, Bool.false_eq_true, if_false];exact ((zd2 h).cons x).trans (List.Perm.swap _ _ _)
theorem yHg {α : Type} {M N : List (Ad × α)} (hM : yJ0 M) (hN : yJ0 N) (hp : M.Perm N) : M = N := by
 refine List.Perm.eq_of_pairwise (le := fun x y => adLt x.1 y.1 = true) ?_ ?_ ?_ hp
 . intro x y _ _ h1 h2;have := swo_ad.trans _ _ _ h1 h2;rw [jZs] at this; cases this
 . exact hM
 . exact hN
theorem yqn {α : Type} {P : List α -> Prop} (h0 : P []) (h1 : ∀ l x, P l -> P (l ++ [x])) (l : List α) : P l := by
 rw [<- List.reverse_reverse l]
 induction l.reverse with
 | nil => exact h0
 | cons x r ih => rw [List.reverse_cons]; exact h1 _ _ ih
def allP (P : PG) (l : List (Ad × ContT)) : PG := l.foldl (fun P x => putP P x.1 x.2) P
theorem zeT (P : PG) (l : List (Ad × ContT)) (x : Ad × ContT) : allP P (l ++ [x]) = putP (allP P l) x.1 x.2 := by simp [allP]
theorem put_new {P : PG} {x : Ad × ContT} (hl : lkM x.1 P = none) (hlen : P.length < 4096) (hx : y8L x.1.1 x.1.2 = true /\ yQy x.2 = true /\ (x.2.kind == 0) = false /\ jNS x.2 = x.2 /\ x.2.ok) :
    jJz P x.1 x.2 = 0 /\ putP P x.1 x.2 = setM x.1 x.2 P := by
 obtain ⟨h1, h2, h3, h4, _⟩ := hx;have hf : jAG P x.1 = false := (by unfold jAG; rw [hl]; simp; omega);unfold jJz putP;rw [h1, h2, h3, hf, h4];exact ⟨rfl, rfl⟩
end
section
open Go.RowKit Go.Sort Go.Maps Go.Shelf
attribute [local go_sem] Oper.semAt_some
theorem OwnL.own_from {α : Type} {enc : α -> List Value} {X Y : World} {base : Nat} {e : TypeId} {size : Nat} {v : Value} {l : List α} {row : Option Nat} (h : OwnL X base e size enc v l) (hg : X.grownBy Y row) (hr : ∀ r, row = some r -> ∃ o : Obj, X.heap[r]? = some o /\ o.isCells = false) : OwnL Y base e size enc v l := by
 refine World.ownsRow.kept h hg ?_;rcases h.2 with ⟨rfl, _⟩ | ⟨g, cap, cur, rfl, _, hgb, _⟩
 . exact .inl rfl
 . refine .inr fun e' => ?_;obtain ⟨o, ho, hc⟩ := hr g (by simpa [Value.ownBlock] using e'.symm);rw [hgb] at ho; cases ho; cases hc
theorem infoAd : (Tryz.prog.info? 24).map (fun i => (i.zero, i.size, i.bytes)) = some (some (.agg #[.int .i64 0, .int .i64 0]), 2, 16) := by kernel_rfl
theorem yCe (g : Nat) (lb : Array Value) (eg : ∀ args w, (callFunc g args).run Tryz.prog w = .ok (.enter g args) w) (S Sp : List Ad -> Prop) (N : Nat) (hN : N <= 8192) (n : Nat) (hn : 2 <= n) (w : World) (hseq : SeqStopsK Fence.wide (n - 1) Tryz.prog g lb (fun x : Ad => #[adW x]) KeepsWalks S Sp N w) :
    CallsIn Fence.wide n Tryz.prog 165 #[.slice none 0 0, .func (.func g) #[] lb] w fun e w' => ∃ (v : Value) (ks : List Ad), e = .returned v /\ S ks /\ OwnL w' w.heap.size 24 2 adC v ks /\ Below w.heap.size w w' := by
 obtain ⟨i0, hi, hz0, hz1, hz2⟩ := info_parts infoAd;refine callsIn_of_wp_marks Tryz.func165 rfl trivial ?_ rfl;simp only [Tryz.ntmps165, List.size_toArray, List.length_cons, List.length_nil, Nat.reduceAdd, Nat.reduceSub, Array.replicate_succ, Array.replicate_zero, List.push_toArray, List.append_toArray, List.nil_append, List.cons_append]
 gi_wp2
 obtain ⟨W0, hW0⟩ := e_ (w.alloc (.cells #[.slice none 0 0] 80));have bS : Boxed W0 w.heap.size 80 (.slice none 0 0) := (by rw [<- hW0]; exact Boxed.new w _ _);have hB0 : Below w.heap.size w W0 := (by rw [<- hW0]; exact (Below.refl _ w).alloc (Nat.le_refl _) _);have hsz : W0.heap.size = w.heap.size + 1 := (by rw [<- hW0]; simp);rw [hW0];clear hW0;refine wpIn_rangeFunc_ownH (F := Fence.wide) rfl (by omega) (gf := g) (lb := lb) rfl trivial eg hseq walksK_t walksK_b hB0 (fun _ => rfl)
  (fun pre W => (∃ v, Boxed W w.heap.size 80 v /\ OwnL W w.heap.size 24 2 adC v pre) /\ Below w.heap.size w W)
  (fun _ _ _ => False)
  (OwnFrom.and (fun s X Y row hs hg hr => by
   obtain ⟨v, hv, ho⟩ := hs;exact ⟨v, boxed_own w.heap.size 80 (fun (_ : Unit) => v) () X Y row hv hg (fun r e => (hr r e).2), ho.own_from hg (fun r e => (hr r e).2)⟩) (ownFrom_below (Nat.le_refl _) (by omega)))
  (fun _ _ _ _ _ hs _ _ => hs)
  ⟨⟨_, bS, World.ownsRow_nil _ _ _ _⟩, hB0⟩
  (fun x a' W => ∃ Bx, r_ W Bx #[x.1, x.2] 24 /\ a' = { tmps := #[.slice none 0 0, .func (.func g) #[] lb, v_ w.heap.size, undef, .slice none 0 0, v_ Bx, .func (.func g) #[] lb, .agg #[x.1, x.2], undef, undef, undef, undef, undef], defers := [] })
  (fun x a' _ X Y row hs hg hr => by
   obtain ⟨Bx, h1, h2⟩ := hs;refine ⟨Bx, (hg.block Bx (g_ h1).1 (fun e => ?_)).trans h1, h2⟩;obtain ⟨_, o, ho, hc⟩ := hr Bx e.symm;rw [h1] at ho; cases ho; cases hc)
  ?assign ?body ?done ?stop
 case assign =>
  rintro l pre x W K ⟨⟨v, hv, ho⟩, hB⟩ hK
  gi_wp2
  exact hK _ _ ((KeepsOthers.alloc _ _).from _) (KeepsWalks.alloc _ _) ⟨⟨v, hv.alloc _, ho.alloc _⟩, hB.alloc hB.size _⟩ ⟨W.heap.size, World.alloc_heap_new W _, rfl⟩
 case body =>
  rintro l pre x a' W hl ⟨r, hr⟩ ⟨⟨v, hv, ho⟩, hB⟩ ⟨Bx, hBx, rfl⟩ hlt;have hc0 : W.cell? ⟨Bx, 0, none⟩ = some (.int .i64 x.1) := (by simp [World.cell?, hBx]);have hc1 : W.cell? ⟨Bx, 1, none⟩ = some (.int .i64 x.2) := (by simp [World.cell?, hBx]);have hcv := hv.cell;have hle := hB.size
  gi_wp2_with (first
   | (gi_at_builtin; refine wpListIn_append_own _ rfl _ _ 80 rfl w.heap.size 24 i0 _ 2 16 Tryz.underlying80 hi hz0 hz1 hz2 rfl (by decide) _ _ _ rfl (World.ownsRow.alloc (w := W) ho _) ⟨W.heap.size, 0, none⟩ 1 1 [.int .i64 x.1, .int .i64 x.2] rfl rfl (yVA W [.int .i64 x.1, .int .i64 x.2] 24 rfl) (j4A x) (by unfold maxLen; omega) (by omega) (by simp; omega) ?_; intro v' w1 hown' hgrow _; obtain ⟨g', cap', rfl⟩ := ownsRow_succ hown'; obtain ⟨hv1, hv2, hr2, hk2, hb2⟩ := hv.appended (by decide) ho hle (Nat.le_refl _) hown' hgrow; have hc1' := hv1.cell; have hf1 := hv1.frozen)
   | gi_in)
  exact ⟨hk2.from _, ⟨hk2.size, fun k o hk hw => hk2.same k o hk (Obj.not_cells_of_walk hw)⟩, ⟨_, hv2, by unfold OwnL; simpa [adC] using hr2⟩, hB.trans hb2⟩
 case done =>
  rintro D xs W hD hS ⟨⟨v, hv, ho⟩, hB⟩ hK;have hcv := hv.cell
  gi_wp2
  refine ⟨by simp, .inl ⟨_, _, rfl, run_takeDeferred hK, ?_⟩⟩;exact ⟨_, results_tmp rfl _ _ _, v, xs, rfl, hS, ho.own_from (grownBy_putObj' W D _) (fun r e => by cases e; exact ⟨_, hK, rfl⟩), hB.trans (belowK_b (w := w) (Nat.le_refl _) W D _ _ (by omega) hK rfl rfl)⟩
 case stop =>
  rintro D c pre W hD hS hF;exact hF.elim
theorem zMY (g : Nat) (lb : Array Value) (eg : ∀ args w, (callFunc g args).run Tryz.prog w = .ok (.enter g args) w) (S Sp : List Ad -> Prop) (N : Nat) (hN : N <= 8192) (n : Nat) (hn : 3 <= n) (w : World) (hseq : SeqStopsK Fence.wide (n - 1 - 1) Tryz.prog g lb (fun x : Ad => #[adW x]) KeepsWalks S Sp N w) :
    CallsIn Fence.wide n Tryz.prog 150 #[.func (.func g) #[] lb] w fun e w' => ∃ (v : Value) (ks : List Ad), e = .returned v /\ S ks /\ OwnL w' w.heap.size 24 2 adC v ks /\ Below w.heap.size w w' := by
 refine callsIn_of_wp Tryz.func150 rfl trivial ?_ rfl;simp only [Tryz.ntmps150, List.size_toArray, List.length_cons, List.length_nil, Nat.reduceAdd, Nat.reduceSub, Array.replicate_succ, Array.replicate_zero, List.push_toArray, List.append_toArray, List.nil_append, List.cons_append];have h1 : 1 <= n := (by omega);have hf : Fence.wide.fn 165 := trivial
 gi_wp2_with (gi_at_call 165; refine (yCe g lb eg S Sp N hN (n - 1) (by omega) w hseq).mono ?_; rintro e w' ⟨v, ks, rfl, hS, ho, hb⟩)
 go_ret;exact ⟨v, ks, rfl, hS, ho, hb⟩
theorem zx3 (g : Nat) (lb : Array Value) (eg : ∀ args w, (callFunc g args).run Tryz.prog w = .ok (.enter g args) w) (S Sp : List Ad -> Prop) (N : Nat) (hN : N <= 8192) (hSN : ∀ ks, S ks -> ks.length <= 8192) (n : Nat) (hn : 4 <= n) (w : World) (hseq : SeqStopsK Fence.wide (n - 1 - 1 - 1) Tryz.prog g lb (fun x : Ad => #[adW x]) KeepsWalks S Sp N w) :
    CallsIn Fence.wide n Tryz.prog 117 #[.func (.func g) #[] lb, .func (.func 119) #[] #[]] w fun e w' => ∃ (v : Value) (ks : List Ad), e = .returned v /\ S ks /\ OwnL w' w.heap.size 24 2 adC v (yoF adLt ks) /\ Below w.heap.size w w' := by
 refine callsIn_of_wp Tryz.func117 rfl trivial ?_ rfl;simp only [Tryz.ntmps117, List.size_toArray, List.length_cons, List.length_nil, Nat.reduceAdd, Nat.reduceSub, Array.replicate_succ, Array.replicate_zero, List.push_toArray, List.append_toArray, List.nil_append, List.cons_append];have h1 : 1 <= n := (by omega);have hf : Fence.wide.fn 150 := trivial;have hf2 : Fence.wide.fn 151 := trivial
 gi_wp2_with (gi_at_call 150; refine (zMY g lb eg S Sp N hN (n - 1) (by omega) w hseq).mono ?_; rintro e w1 ⟨v, ks, rfl, hS, ho, hb⟩)
 have hl := hSN ks hS;have hcs := callsIn_wide (n := n - 1).2 (joI ho (by omega))
 gi_wp2_with (gi_at_call 151; refine hcs.mono ?_; rintro e w2 ⟨rfl, ho2, hg2⟩)
 go_ret;exact ⟨v, ks, rfl, hS, ho2, Below.grown hb hg2 hb.size (fun k hk => (World.ownsRow.lt ho k hk).1)⟩
end
section
open Go.RowKit Go.Sort Go.Maps Go.Shelf
def jG1 (A : Nat -> Bool) (k : Nat) : Obj -> Bool
 | .cells _ e _ => e == 24 || e == 99 || e == 29 || A (2 * e)
 | .map _ _ => !A (2 * k + 1)
 | o => o.isWalk
structure KeepsT (A : Nat -> Bool) (W W' : World) : Prop where
 size : W.heap.size <= W'.heap.size
 same : ∀ (k : Nat) (o : Obj), W.heap[k]? = some o -> jG1 A k o = true -> W'.heap[k]? = some o
theorem KeepsT.refl (A : Nat -> Bool) (W : World) : KeepsT A W W := ⟨Nat.le_refl _, fun _ _ h _ => h⟩
theorem KeepsT.trans {A : Nat -> Bool} {X Y Z : World} (h : KeepsT A X Y) (k : KeepsT A Y Z) : KeepsT A X Z := ⟨Nat.le_trans h.size k.size, fun i o hi ho => k.same i o (h.same i o hi ho) ho⟩
theorem KeepsT.of_xt {A : Nat -> Bool} {W W' : World} (h : Xt W W') : KeepsT A W W' := ⟨h.size, fun k _o hk _ => (h.block k (g_ hk).1).trans hk⟩
theorem KeepsT.of_grown {A : Nat -> Bool} {W W' : World} {row : Option Nat} (h : W.grownBy W' row) (hr : ∀ j o, row = some j -> W.heap[j]? = some o -> jG1 A j o = false) : KeepsT A W W' :=
 ⟨h.size, fun k o hk ho => (h.block k (g_ hk).1 (fun e => by rw [hr k o e.symm hk] at ho; cases ho)).trans hk⟩
theorem MapIs.keptT {A : Nat -> Bool} {w w' : World} {b : Nat} {E : List (Ad × Value)} (h : MapIs w b E) (hk : KeepsT A w w') (hA : A (2 * b + 1) = false) : MapIs w' b E := by
 obtain ⟨es, clock, h1, h2⟩ := h;exact ⟨es, clock, hk.same b _ h1 (by simp [jG1, hA]), h2⟩
theorem OwnL.keptT {A : Nat -> Bool} {w w' : World} {B : Nat} {v : Value} {l : List Ad} (h : OwnL w B 24 2 adC v l) (hk : KeepsT A w w') : OwnL w' B 24 2 adC v l := by
 refine ⟨h.1, ?_⟩;rcases h.2 with q | ⟨g, cap, cur, q1, q2, q3, q4⟩
 . exact Or.inl q
 . exact Or.inr ⟨g, cap, cur, q1, q2, hk.same g _ q3 (by simp [jG1]), q4⟩
theorem Xt.grownN {W W' : World} (h : Xt W W') : W.grownBy W' none := ⟨h.os, h.tape, h.output, h.size, fun k hk _ => h.block k hk⟩
structure ItSt (A : Nat -> Bool) (n₀ : Nat) (w0 : World) (wf : Nat) (wl : Array Value) (Bw mb kb : Nat) (E : List (Ad × Value)) (v : Value) (keys : List Ad) (wr : World) : Prop where
 below : Below n₀ w0 wr
 want : wr.heap[Bw]? = some (.cells #[.func (.func wf) #[] wl] 99 (0, 0))
 was : MapIs wr mb E
 keys : OwnL wr kb 24 2 adC v keys
 free : A (2 * mb + 1) = false
theorem ItSt.step {A : Nat -> Bool} {n₀ : Nat} {w0 : World} {wf : Nat} {wl : Array Value} {Bw mb kb : Nat} {E : List (Ad × Value)} {v : Value} {keys : List Ad} {wr wr' : World} (h : ItSt A n₀ w0 wf wl Bw mb kb E v keys wr) (hb : Below n₀ wr wr') (hk : KeepsT A wr wr') : ItSt A n₀ w0 wf wl Bw mb kb E v keys wr' :=
 ⟨h.below.trans hb, hk.same _ _ h.want (by simp [jG1]), h.was.keptT hk h.free, h.keys.keptT hk, h.free⟩
theorem ItSt.xt {A : Nat -> Bool} {n₀ : Nat} {w0 : World} {wf : Nat} {wl : Array Value} {Bw mb kb : Nat} {E : List (Ad × Value)} {v : Value} {keys : List Ad} {wr wr' : World} (h : ItSt A n₀ w0 wf wl Bw mb kb E v keys wr) (hn : n₀ <= w0.heap.size) (hx : Xt wr wr') : ItSt A n₀ w0 wf wl Bw mb kb E v keys wr' :=
 h.step (hx.mono (Nat.le_trans hn h.below.size)) (KeepsT.of_xt hx)
abbrev TE := Ad × ContT × Option Addr
abbrev teV (x : TE) : Array Value := #[adW x.1, ysf x.2.1 x.2.2]
def toldT (V : World) (x : TE) (w : World) : Prop := Xt V w /\ yQE x.2.1.t /\ ∃ n, ArgsS (fun b => V.heap.size <= b) w n (.slice x.2.2 x.2.1.t.args.length x.2.1.t.args.length) (jEz x.2.1.t.args)
def toldM (M : GM) (V : World) (x : TE) (w : World) : Prop := toldT V x w /\ (x.1, x.2.1) ∈ M.map (fun y => (y.1, y.2.1))
theorem jI8 {X Y : World} {row : Option Nat} {B : Nat} {cs : Array Value} {T : TypeId} {fz : Nat × Nat} (h : X.heap[B]? = some (.cells cs T fz)) (hg : X.grownBy Y row) (hr : ∀ r, row = some r -> ∃ o : Obj, X.heap[r]? = some o /\ o.isCells = false) : Y.heap[B]? = some (.cells cs T fz) := by
 refine (hg.block B (g_ h).1 (fun e => ?_)).trans h;obtain ⟨o, ho, hc⟩ := hr B e.symm;rw [h] at ho; cases ho; cases hc
theorem zNc {w w' : World} {row : Option Nat} (hg : w.grownBy w' row) (hr : ∀ r, row = some r -> ∃ o : Obj, w.heap[r]? = some o /\ o.isCells = false) : CellsIn w w' := fun b o u hu => by
 refine (d_ (w := w) (a := ⟨b, o, none⟩) (hg.block b (b_ w _ hu) (fun e => ?_))).trans hu;obtain ⟨ob, h1, h2⟩ := hr b e.symm;simp only [World.cell?, h1] at hu;cases ob <;> simp_all [Obj.isCells]
theorem jWD {w w' : World} (hx : Xt w w') (B : Nat) : KeepsFrom B w w' := ⟨hx.size, fun k _ _ hk _ => (hx.block k (g_ hk).1).trans hk⟩
theorem OwnL.slice {α : Type} {w : World} {B : Nat} {T : TypeId} {k : Nat} {enc : α -> List Value} {v : Value} {l : List α} (h : OwnL w B T k enc v l) {n : Nat} (hn : l.length = n) : ∃ a c, v = .slice a n c /\ n <= c /\ c <= 9223372036854775807 := by
 rcases h.2 with ⟨rfl, h0⟩ | ⟨g, cap, cur, rfl, _, _, h1, h2, _⟩
 . exact ⟨none, 0, by rw [<- hn, h0], by omega, by omega⟩
 . exact ⟨_, cap, by rw [<- hn], by omega, by simp only [maxLen] at h2; omega⟩
theorem keys_at {w : World} {B : Nat} {va : Option Addr} {n vc : Nat} {l : List Ad} (h : OwnL w B 24 2 adC (.slice va n vc) l) {i : Nat} {x : Ad} (hx : l[i]? = some x) : ∃ b off, va = some ⟨b, off, none⟩ /\ c_ w b (off + i * 2) x.1 /\ c_ w b (off + i * 2 + 1) x.2 := by
 obtain ⟨a, cap, e, _, _, hc⟩ := OwnL.sl h jPW;cases e;obtain ⟨b, off, rfl, hcell⟩ := hc (by intro e; subst e; simp at hx);exact ⟨b, off, rfl, hcell i x hx 0 _ rfl, hcell i x hx 1 _ rfl⟩
end
section
open Go.RowKit Go.Sort Go.Maps Go.Shelf
attribute [local go_sem] Oper.semAt_some
theorem GridIs.sorted_keys {w : World} {gb mb : Nat} {M : GM} {E : List (Ad × Value)} (h : GridIs w gb mb M) (hm : MapIs w mb E) (he : ∀ a, lk a E = (lkM a M).map ceV) {ks : List Ad} (hk : ks.Perm (E.map (·.1))) : yoF adLt ks = M.map (·.1) :=
 y50 (by rw [List.pairwise_map]; exact h.sorted) (hk.trans (h.keys hm he))
theorem lkM_at {α : Type} {M : List (Ad × α)} (hs : yJ0 M) {i : Nat} {x : Ad × α} (hx : M[i]? = some x) : lkM x.1 M = some x.2 := by
 induction M generalizing i with
 | nil => simp at hx
 | cons y r ih =>
  obtain ⟨h1, h2⟩ := List.pairwise_cons.1 hs;cases i with
  | zero => simp at hx; subst hx; simp [lkM]
  | succ i =>
   simp only [List.getElem?_cons_succ] at hx;have hm := m_ hx;have hne : ¬ y.1 = x.1 := fun e => by have := h1 x hm; rw [e, jZs] at this; cases this
   simp only [lkM, hne, if_false];exact ih h2 hx
def z2c (M : GM) (wb : Ad -> Bool) (xs : List TE) : Prop := xs.map (fun x => (x.1, x.2.1)) = (M.filter (fun y => wb y.1)).map (fun y => (y.1, y.2.1))
theorem jVN {M : GM} {wb : Ad -> Bool} {pre : List TE} {i : Nat} {x : Ad × CE} {a' : Option Addr} (h : z2c (M.take i) wb pre) (hx : M[i]? = some x) (hw : wb x.1 = true) : z2c (M.take (i + 1)) wb (pre ++ [(x.1, x.2.1, a')]) := by
 unfold z2c at *;rw [List.take_add_one, hx, List.map_append, h]; simp [hw]
theorem told_no {M : GM} {wb : Ad -> Bool} {pre : List TE} {i : Nat} {x : Ad × CE} (h : z2c (M.take i) wb pre) (hx : M[i]? = some x) (hw : wb x.1 = false) : z2c (M.take (i + 1)) wb pre := by
 unfold z2c at *;rw [List.take_add_one, hx, h]; simp [hw]
theorem jsr {M : GM} {wb : Ad -> Bool} {pre : List TE} (h : z2c M wb pre) : pre.length <= M.length := by
 have := congrArg List.length h;simp only [List.length_map] at this;rw [this];exact List.length_filter_le ..
section
variable {F : Fence} {n : Nat} {P : Program} {md : Region.Mode} {ops : Array Oper} {Q : Exit -> Act -> World -> Prop} {fuel : Nat} {listed : Array Bool} {a a' : Act} {w : World} {o q : Oper}
theorem rdI (i : Nat) (h : ∀ K' : Act -> World -> Prop, (∀ a w, wpAnyIn F n P md ops Q fuel (listed.setIfInBounds i true) a w -> K' a w) -> if Region.wanted o (yielded ops a.tmps) = true then Oper.wpIn F n P o a w K' Q else (∀ f, o.about P w a.eval = some f -> F.fn f) /\ K' (a.put o.dst undef) w)
    (ho : ops[i]? = some o := by rfl) (hr : Region.ready md ops listed = [i] := by decide +kernel) : wpAnyIn F n P md ops Q (fuel + 1) listed a w :=
 wpAnyIn_ready hr (by simp) (AllReadyIn.cons ho h AllReadyIn.nil)
theorem rdI2 (i j : Nat) (h : ∀ K' : Act -> World -> Prop, (∀ a w, wpAnyIn F n P md ops Q fuel (listed.setIfInBounds i true) a w -> K' a w) -> if Region.wanted o (yielded ops a.tmps) = true then Oper.wpIn F n P o a w K' Q else (∀ f, o.about P w a.eval = some f -> F.fn f) /\ K' (a.put o.dst undef) w)
    (h' : ∀ K' : Act -> World -> Prop, (∀ a w, wpAnyIn F n P md ops Q fuel (listed.setIfInBounds j true) a w -> K' a w) -> if Region.wanted q (yielded ops a.tmps) = true then Oper.wpIn F n P q a w K' Q else (∀ f, q.about P w a.eval = some f -> F.fn f) /\ K' (a.put q.dst undef) w)
    (ho : ops[i]? = some o := by rfl) (ho' : ops[j]? = some q := by rfl) (hr : Region.ready md ops listed = [i, j] := by decide +kernel) : wpAnyIn F n P md ops Q (fuel + 1) listed a w :=
 wpAnyIn_ready hr (by simp) (AllReadyIn.cons ho h (AllReadyIn.cons ho' h' AllReadyIn.nil))
theorem koI {K : Act -> World -> Prop} (hK : ∀ a w, wpAnyIn F n P md ops Q fuel listed a w -> K a w) (h : wpAnyIn F n P md ops Q fuel listed a' w) (ha : a = a' := by first | (simp only [Act.put, nm]; done) | (simp only [Act.put, nm]; rfl) | rfl) : K a w := by
 subst ha;exact hK _ _ h
theorem tkI (i : Nat) {v : Value} (h : wpAnyIn F n P md ops Q fuel (listed.setIfInBounds i true) a' w) (hro : F.round = none := by rfl)
    (hi : ops[i]? = some o := by rfl) (hs : Region.noSelect ops = true := by kernel_rfl) (hf : Region.free md ops listed i = true := by kernel_rfl) (hr : (Region.ready md ops listed).contains i = true := by kernel_rfl)
    (hQ : ∀ c a w, Q (.panic c) (a.put o.dst v) w -> Q (.panic c) a w := by exact fun _ _ _ h => h) (hw : Region.wanted o (yielded ops a.tmps) = true := by rfl)
    (hy : ∀ w, (execOp a.eval o).run P w = .ok (.value v) w := by (intro w; go_simp; first | done | with_reducible rfl)) (hab : ∀ w, o.about P w a.eval = none := by exact fun _ => rfl)
    (ha : a.put o.dst v = a' := by (simp only [Act.put, nm]; try rfl)) : wpAnyIn F n P md ops Q (fuel + 1) listed a w := by
 subst ha;exact wpAnyIn_take hro hi hs hf hr hQ ⟨Or.inl ⟨hw, hy⟩, hab⟩ h
theorem skI (i : Nat) (h : wpAnyIn F n P md ops Q fuel (listed.setIfInBounds i true) a' w) (hro : F.round = none := by rfl)
    (hi : ops[i]? = some o := by rfl) (hs : Region.noSelect ops = true := by kernel_rfl) (hf : Region.free md ops listed i = true := by kernel_rfl) (hr : (Region.ready md ops listed).contains i = true := by kernel_rfl)
    (hQ : ∀ c a w, Q (.panic c) (a.put o.dst undef) w -> Q (.panic c) a w := by exact fun _ _ _ h => h) (hw : Region.wanted o (yielded ops a.tmps) = false := by rfl) (hab : ∀ w, o.about P w a.eval = none := by exact fun _ => rfl)
    (ha : a.put o.dst undef = a' := by (simp only [Act.put, nm]; try rfl)) : wpAnyIn F n P md ops Q (fuel + 1) listed a w := by
 subst ha;exact wpAnyIn_take hro hi hs hf hr hQ ⟨Or.inr ⟨hw, rfl⟩, hab⟩ h
end
theorem yDs (A : Nat -> Bool) (wf : Nat) (wl : Array Value) (ew : ∀ args w, (callFunc wf args).run Tryz.prog w = .ok (.enter wf args) w) (wb : Ad -> Bool) (n₀ : Nat) (w0 : World) (hn0 : n₀ = w0.heap.size) (Wk : World -> Prop) (hWk : ∀ W W', Wk W -> Below n₀ W W' -> KeepsT A W W' -> Wk W') (hwant : ∀ (a : Ad) (W : World), Wk W -> Calls Tryz.prog wf (#[adW a] ++ wl) W fun e W' => e = .returned (.bool (wb a)) /\ Gr W W')
    (n : Nat) (hn : 8 <= n) (l Bg Bw gb mb : Nat) (M : GM) (hG : GridIs w0 gb mb M) (J Jx : List TE -> World -> Prop) (W : World) (hA0 : A (2 * W.heap.size + 1) = false) (hW : Below n₀ w0 W) (hWkW : Wk W) (hJ : AbidesFrom W.heap.size J)
    (hcg : W.cell? ⟨Bg, 0, none⟩ = some (.pointer (some ⟨gb, 0, none⟩))) (hcw : W.heap[Bw]? = some (.cells #[.func (.func wf) #[] wl] 99 (0, 0)))
    (hY : ∀ pre x W1, J pre W1 -> (∃ V, J pre V /\ toldM M V x W1) -> pre.length < M.length -> YieldAt Fence.wide (n - 1) Tryz.prog l (teV x) W1 fun e W' => (e = .returned (.bool true) /\ J (pre ++ [x]) W' /\ Below n₀ W1 W' /\ KeepsT A W1 W') \/ (e = .returned (.bool false) /\ Jx (pre ++ [x]) W'))
    (h0 : J [] W) :
    CallsIn Fence.wide n Tryz.prog 116 #[.func (.yield l) #[] #[], v_ Bg, v_ Bw] W fun e W' => (∃ v, e = .returned v) /\ ((∃ xs, z2c M wb xs /\ J xs W') \/ (∃ pre, (∃ i, z2c (M.take i) wb pre) /\ Jx pre W')) := by
 have hGW := hG.xt (hW.mono (by omega) : Below w0.heap.size w0 W);have HGW := h_ hGW;have HG := h_ hG;have hcm := hGW.cell;obtain ⟨E, hm, he⟩ := hGW.map;have HE := h_ he;have HSK := h_ (fun ks => hGW.sorted_keys (ks := ks) hm he);have HLE := h_ (hGW.len hm he);obtain ⟨es, clock, hes, hst, hkv⟩ := hm;obtain ⟨Wa, hWa⟩ := e_ (W.alloc (.map es clock));have hma : MapIs Wa W.heap.size E := (by rw [<- hWa]; exact ⟨es, clock, (a_ W _).1, hst, hkv⟩);have hxa : Xt W Wa := (by rw [<- hWa]; exact (Xt.refl W).alloc _);have hsa : Wa.heap.size = W.heap.size + 1 := by rw [<- hWa]; simp
 obtain ⟨Wb, hWb⟩ := e_ (Wa.alloc (.cells #[.map (some W.heap.size)] 100));have hxb : Xt Wa Wb := (by rw [<- hWb]; exact (Xt.refl Wa).alloc _);have hmb : MapIs Wb W.heap.size E := hma.of_heap (hxb.block _ hma.lt);have hcb : Wb.cell? ⟨W.heap.size + 1, 0, none⟩ = some (.map (some W.heap.size)) := (by rw [<- hWb, <- hsa]; simp);have hsb : Wb.heap.size = Wa.heap.size + 1 := (by rw [<- hWb]; simp);have HC := h_ (fun k => callsIn_wide (n := k).2 (ztU mb es clock W hes));have HKY := h_ (fun k => keys_in Fence.wide k trivial rfl (some W.heap.size) Wa)
 have HSF := h_ (fun k (hk : 4 <= k) => zx3 152 #[v_ (W.heap.size + 1)] (enters_of Tryz.func152 (by kernel_rfl) rfl) _ _ E.length (by have := HLE.out; have := hG.many; omega) (fun ks hk => by have := hk.length_eq; have := HLE.out; have := hG.many; simp at *; omega) k hk Wb (ynl Fence.wide (k - 1 - 1 - 1) trivial rfl (by omega) (W.heap.size + 1) W.heap.size E Wb (by omega) hcb hmb));have hf1 : Fence.wide.fn 72 := trivial;have hf2 : Fence.wide.fn 118 := trivial;have hf3 : Fence.wide.fn 117 := trivial;have hf4 : Fence.wide.fn 49 := trivial;have hf5 : Fence.wide.fn wf := trivial;have h1 : 1 <= n := (by omega);have h4 : 4 <= n - 1 := by omega
 clear hG hGW he hst hkv;refine callsIn_of_wp Tryz.func116 rfl trivial ?_ rfl;simp only [Tryz.ntmps116, List.size_toArray, List.length_cons, List.length_nil, Nat.reduceAdd, Nat.reduceSub, Array.replicate_succ, Array.replicate_zero, List.push_toArray, List.append_toArray, List.nil_append, List.cons_append]
 gi_wp2_with (first
  | (gi_at_call 72; refine (HC.out _).mono ?_; rintro e w' ⟨rfl, rfl⟩; rw [hWa])
  | (gi_at_call 118; refine (HKY.out _).mono ?_; rintro e w' ⟨rfl, rfl⟩; rw [hWb])
  | (gi_at_call 117; refine (HSF.out _ h4).mono ?_; rintro e Wc ⟨v, ks, rfl, hS, ho, hbc⟩; have hkk := HSK.out ks hS; rw [hkk] at ho; obtain ⟨va, vc, rfl, hvc⟩ := OwnL.slice ho (n := M.length) (by simp); have HO := h_ ho; have HBC := h_ hbc; clear ho hbc hkk hS))
 have hxc : Xt Wb Wc := HBC.out;have hWc : Xt W Wc := (hxa.trans hxb).trans hxc;have hmc : MapIs Wc W.heap.size E := hmb.of_heap (hxc.block _ hmb.lt);have HI : Hid (ItSt A n₀ w0 wf wl Bw W.heap.size Wb.heap.size E (.slice va M.length vc) (M.map (·.1)) Wc) := ⟨hW.trans (hWc.mono (by have := hW.size; omega)), (hWc.block _ (g_ hcw).1).trans hcw, hmc, HO.out, hA0⟩;have HWk : Hid (Wk Wc) := hWk _ _ hWkW (hWc.mono (by have := hW.size; omega)) (KeepsT.of_xt hWc);have HJ0 : Hid (J [] Wc) := hJ [] W Wc none h0 hWc.grownN (fun r e => by cases e);have hsz : W.heap.size <= Wc.heap.size := hWc.size
 clear hmc hWc hxc hmb hma hxa hxb hes HC HKY HSF hWa hWb hcb hsa hsb HBC HO h0 hcg hcw hcm HSK hWkW hf1 hf2 hf3
 gi_loopw [18] (fun s18 wr => ∃ (i : Nat) (pre : List TE), i <= M.length /\ s18 = .int .i64 i /\ Hid (ItSt A n₀ w0 wf wl Bw W.heap.size Wb.heap.size E (.slice va M.length vc) (M.map (·.1)) wr) /\ Hid (Wk wr) /\ Hid (J pre wr) /\ Hid (z2c (M.take i) wb pre) /\ W.heap.size <= wr.heap.size) (fun s18 _ => M.length - (intOf s18).toNat)
 case atStart => exact ⟨0, [], Nat.zero_le _, rfl, HI, HWk, HJ0, by unfold Hid; rfl, hsz⟩
 case round =>
  clear HI HWk HJ0 hsz;obtain ⟨i, pre, hi, rfl, HI, HWk, HJ, HT, hsz⟩ := hrel;by_cases hlt : i < M.length
  . obtain ⟨x, hx⟩ : ∃ x, M[i]? = some x := ⟨M[i], by simp [hlt]⟩;obtain ⟨⟨c, d⟩, xc⟩ := x;have hki : (i : Int) < (M.length : Int) := (by omega);obtain ⟨b, off, rfl, k0, k1⟩ := keys_at HI.out.keys (i := i) (x := (c, d)) (by simp [hx])
    gi_wp2
    obtain ⟨wq, hwq⟩ := e_ (wr.alloc (.cells #[c, d] 24));have hxq : Xt wr wq.drew := (by rw [<- hwq]; exact ((Xt.refl wr).alloc _).drew);have HIq : Hid (ItSt A n₀ w0 wf wl Bw W.heap.size Wb.heap.size E (.slice (some ⟨b, off, none⟩) M.length vc) (M.map (·.1)) wq.drew) := HI.out.xt (by omega) hxq;have HWkq : Hid (Wk wq.drew) := hWk _ _ HWk.out (hxq.mono (by have := HI.out.below.size; omega)) (KeepsT.of_xt hxq);have HJq : Hid (J pre wq.drew) := hJ _ _ _ none HJ.out hxq.grownN (fun r e => by cases e);have q0 : wq.drew.cell? ⟨wr.heap.size, 0, none⟩ = some (.int .i64 c) := by rw [<- hwq]; exact new2a wr (.int .i64 c) (.int .i64 d) 24 rfl
    have q1 : wq.drew.cell? ⟨wr.heap.size, 1, none⟩ = some (.int .i64 d) := (by rw [<- hwq]; exact new2b wr (.int .i64 c) (.int .i64 d) 24 rfl);have cw : wq.drew.cell? ⟨Bw, 0, none⟩ = some (.func (.func wf) #[] wl) := (by have := HIq.out.want; simp [World.cell?] at this ⊢; simp [this]);have HWN := h_ (fun k => callsIn_wide (n := k).2 (hwant (c, d) wq.drew HWkq.out));have hsq : wr.heap.size < wq.heap.size := (by rw [<- hwq]; simp);have hsd : wq.drew.heap.size = wq.heap.size := rfl;rw [hwq];have HCI : Hid (ceIn w0 xc) := HG.out.args _ (m_ hx);obtain ⟨dd, hdd⟩ := HCI.out.2
    have HL0 : Hid ((lk (c, d) E) = some (ceV xc)) := h_ (by rw [HE.out, lkM_at HG.out.sorted hx]; rfl);have HPL : Hid (pre.length < M.length) := h_ (by
     have := jsr HT.out;rw [List.length_take] at this; omega)
    clear HI HWk HJ hxq hwq k0 k1;by_cases hwb : wb (c, d) = true
    . have HWB := h_ hwb;clear hwb;refine wpIn_region_any (by kernel_rfl) ?_;change wpAnyIn _ _ _ _ _ _ _ _ _ (World.drew _)
      iterate 2
       all_goals first
        | refine rdI2 0 1 (fun K hK => ?_) fun K hK => ?_
        | refine rdI 1 fun K hK => ?_
        | refine rdI 0 fun K hK => ?_
       all_goals (go_simp; refine koI hK ?_; clear hK K)
      all_goals
       refine rdI 2 fun K hK => ?_;go_simp;refine (HWN.out _).mono ?_;rintro e w1 ⟨rfl, hg1⟩;rw [HWB.out];have HI1 : Hid (ItSt A n₀ w0 wf wl Bw W.heap.size Wb.heap.size E (.slice (some ⟨b, off, none⟩) M.length vc) (M.map (·.1)) w1) := HIq.out.xt (by omega) hg1.xt;have HWk1 : Hid (Wk w1) := hWk _ _ HWkq.out (hg1.xt.mono (by have := HIq.out.below.size; omega)) (KeepsT.of_xt hg1.xt);have HJ1 : Hid (J pre w1) := hJ _ _ _ none HJq.out hg1.xt.grownN (fun r e => by cases e);have r0 := hg1.xt.cellsIn _ _ _ q0;have r1 := hg1.xt.cellsIn _ _ _ q1;have hs1 := hg1.xt.sz
       have HGC := h_ (fun k => callsIn_wide (n := k).2 (yN8 dd xc.1 xc.2 xc.1.t.args.length w1 HCI.out.1 (hdd.xt (HI1.out.below.mono (by omega) : Below w0.heap.size w0 w1))));have hl : (Instr.lookup 100 (.map (some W.heap.size)) (.agg #[c, d]) false).run Tryz.prog w1 = .ok (jEC xc.1 xc.2 xc.1.t.args.length xc.1.t.args.length) w1 := by
        have := HI1.out.was.lookup (P := Tryz.prog) (t := 100) (k := 24) (e := 51) z2M Tryz.underlying100 jjQ (c, d);rw [HL0.out] at this; exact this
       refine koI hK ?_;clear hK K hg1;refine tkI 3 ?_;refine tkI 4 ?_;refine tkI 6 ?_
      iterate 4
       all_goals first
        | refine rdI2 5 7 (fun K hK => ?_) fun K hK => ?_
        | refine rdI2 5 8 (fun K hK => ?_) fun K hK => ?_
        | refine rdI2 5 9 (fun K hK => ?_) fun K hK => ?_
        | refine rdI 5 fun K hK => ?_
        | refine rdI 7 fun K hK => ?_
        | refine rdI 8 fun K hK => ?_
        | refine rdI 9 fun K hK => ?_
       all_goals
        go_simp
        first
         | refine koI hK ?_
         | refine (HGC.out _).mono ?_
           rintro e w2 ⟨a', rfl, hA, hx2⟩;have HI2 : Hid (ItSt A n₀ w0 wf wl Bw W.heap.size Wb.heap.size E (.slice (some ⟨b, off, none⟩) M.length vc) (M.map (·.1)) w2) := HI1.out.xt (by omega) hx2;have HWk2 : Hid (Wk w2) := hWk _ _ HWk1.out (hx2.mono (by have := HI1.out.below.size; omega)) (KeepsT.of_xt hx2);have hJ2 : J pre w2 := hJ _ _ _ none HJ1.out hx2.grownN (fun r e => by cases e);have s0 := hx2.cellsIn _ _ _ r0;have s1 := hx2.cellsIn _ _ _ r1;have hs2 := hx2.sz;obtain ⟨fn, tmps, assign, body, hy, hR⟩ := hY pre ((c, d), xc.1, a') w2 hJ2 ⟨w1, HJ1.out, ⟨hx2, HCI.out.1, dd, hA⟩, List.mem_map.2 ⟨_, m_ hx, rfl⟩⟩ HPL.out
           (try dsimp only [teV, adW] at hy)
           refine koI hK ?_;clear hJ2 hA hx2
        clear hK K
      all_goals
       refine rdI 10 fun K hK => ?_;go_simp;refine hR.mono ?_;rintro e w3 (⟨rfl, hJ3, hb3, hk3⟩ | ⟨rfl, hJ3⟩)
       . refine koI hK ?_;clear hK K;refine tkI 11 ?_;refine tkI 12 ?_;refine wpAnyIn_done (by kernel_rfl) ?_ _;have hs3 := hk3.size;have HIE := h_ (HI2.out.step hb3 hk3);have HWE : Hid (Wk w3) := hWk _ _ HWk2.out hb3 hk3;have HJE : Hid (J (pre ++ [((c, d), xc.1, a')]) w3) := hJ3;have HTE : Hid (z2c (M.take (i + 1)) wb (pre ++ [((c, d), xc.1, a')])) := jVN HT.out hx HWB.out;clear hJ3 hb3 hk3
         gi_wp2
         go_roundw
         case rel => exact ⟨i + 1, _, by omega, by go_num, HIE, HWE, HJE, HTE, by omega⟩
         case measure => simp [intOf]; omega
       . refine koI hK ?_;clear hK K;refine tkI 11 ?_;refine tkI 12 ?_;refine wpAnyIn_done (by kernel_rfl) ?_ _;have HJE : Hid (Jx (pre ++ [((c, d), xc.1, a')]) w3) := hJ3;clear hJ3
         gi_wp2
         refine p_ (results_none rfl _ _ _) rfl ?_;exact ⟨⟨_, rfl⟩, Or.inr ⟨_, ⟨_, jVN HT.out hx HWB.out⟩, HJE.out⟩⟩
    . have HWB := h_ (Bool.eq_false_iff.2 hwb);clear hwb;refine wpIn_region_any (by kernel_rfl) ?_;change wpAnyIn _ _ _ _ _ _ _ _ _ (World.drew _)
      iterate 2
       all_goals first
        | refine rdI2 0 1 (fun K hK => ?_) fun K hK => ?_
        | refine rdI 1 fun K hK => ?_
        | refine rdI 0 fun K hK => ?_
       all_goals (go_simp; refine koI hK ?_; clear hK K)
      all_goals
       refine rdI 2 fun K hK => ?_;go_simp;refine (HWN.out _).mono ?_;rintro e w1 ⟨rfl, hg1⟩;rw [HWB.out];have HI1 : Hid (ItSt A n₀ w0 wf wl Bw W.heap.size Wb.heap.size E (.slice (some ⟨b, off, none⟩) M.length vc) (M.map (·.1)) w1) := HIq.out.xt (by omega) hg1.xt;have HWk1 : Hid (Wk w1) := hWk _ _ HWkq.out (hg1.xt.mono (by have := HIq.out.below.size; omega)) (KeepsT.of_xt hg1.xt);have HJ1 : Hid (J pre w1) := hJ _ _ _ none HJq.out hg1.xt.grownN (fun r e => by cases e);have r0 := hg1.xt.cellsIn _ _ _ q0;have r1 := hg1.xt.cellsIn _ _ _ q1;have hs1 := hg1.xt.sz
       have HGC := h_ (fun k => callsIn_wide (n := k).2 (yN8 dd xc.1 xc.2 xc.1.t.args.length w1 HCI.out.1 (hdd.xt (HI1.out.below.mono (by omega) : Below w0.heap.size w0 w1))));have hl : (Instr.lookup 100 (.map (some W.heap.size)) (.agg #[c, d]) false).run Tryz.prog w1 = .ok (jEC xc.1 xc.2 xc.1.t.args.length xc.1.t.args.length) w1 := by
        have := HI1.out.was.lookup (P := Tryz.prog) (t := 100) (k := 24) (e := 51) z2M Tryz.underlying100 jjQ (c, d);rw [HL0.out] at this; exact this
       refine koI hK ?_;clear hK K hg1;refine tkI 3 ?_;refine skI 4 ?_;refine skI 5 ?_;refine skI 6 ?_;refine skI 7 ?_;refine skI 8 ?_;refine rdI 9 fun K hK => ?_;go_simp;first | refine koI hK ?_ | refine ⟨fun _ _ => trivial, koI hK ?_⟩
       clear hK K;refine rdI 10 fun K hK => ?_;go_simp;first | refine koI hK ?_ | refine ⟨fun _ _ => trivial, koI hK ?_⟩
       clear hK K;refine skI 11 ?_;refine tkI 12 ?_;refine wpAnyIn_done (by kernel_rfl) ?_ _;have HTE : Hid (z2c (M.take (i + 1)) wb pre) := told_no HT.out hx HWB.out
       gi_wp2
       go_roundw
       case rel => exact ⟨i + 1, pre, by omega, by go_num, HI1, HWk1, HJ1, HTE, by omega⟩
       case measure => simp [intOf]; omega
  . obtain rfl : i = M.length := by omega
    gi_wp2
    go_end0
    exact ⟨⟨_, rfl⟩, Or.inl ⟨pre, by have := HT.out; rwa [List.take_length] at this, HJ.out⟩⟩
theorem yBt (a : Ad) (w : World) : Calls Tryz.prog 75 #[adW a] w fun e w' => e = .returned (.bool true) /\ Gr w w' := by
 go_enter Tryz.func75, Tryz.ntmps75;go_wp2;go_ret;exact ⟨rfl, (Gr.refl _).alloc _⟩
theorem jip (n : Nat) (p : Option Addr) (wv : Value) (hv : ∃ f lb, wv = .func (.func f) #[] lb) (w : World) :
    CallsIn Fence.wide n Tryz.prog 74 #[.pointer p, wv] w fun e w' => e = .returned (.func (.func 116) #[] #[v_ w.heap.size, v_ (w.heap.size + 1)]) /\ w' = (w.alloc (.cells #[.pointer p] 29)).alloc (.cells #[wv] 99) := by
 obtain ⟨f, lb, rfl⟩ := hv;refine callsIn_of_wp Tryz.func74 rfl trivial ?_ rfl;simp only [Tryz.ntmps74, List.size_toArray, List.length_cons, List.length_nil, Nat.reduceAdd, Nat.reduceSub, Array.replicate_succ, Array.replicate_zero, List.push_toArray, List.append_toArray, List.nil_append, List.cons_append]
 gi_wp2
 go_ret;exact ⟨rfl, rfl⟩
theorem zkD (n : Nat) (hn : 2 <= n) (p : Option Addr) (w : World) :
    CallsIn Fence.wide n Tryz.prog 37 #[.pointer p] w fun e w' => e = .returned (.func (.func 116) #[] #[v_ w.heap.size, v_ (w.heap.size + 1)]) /\ w' = (w.alloc (.cells #[.pointer p] 29)).alloc (.cells #[.func (.func 75) #[] #[]] 99) := by
 have h1 : 1 <= n := (by omega);have hf : Fence.wide.fn 74 := trivial;refine callsIn_of_wp Tryz.func37 rfl trivial ?_ rfl;simp only [Tryz.ntmps37, List.size_toArray, List.length_cons, List.length_nil, Nat.reduceAdd, Nat.reduceSub, Array.replicate_succ, Array.replicate_zero, List.push_toArray, List.append_toArray, List.nil_append, List.cons_append]
 gi_wp2_with (gi_at_call 74; refine (jip (n - 1) p _ ⟨_, _, rfl⟩ w).mono ?_; rintro e w' ⟨rfl, rfl⟩)
 go_ret;exact ⟨rfl, rfl⟩
theorem z8H (A : Nat -> Bool) (wf : Nat) (wl : Array Value) (ew : ∀ args w, (callFunc wf args).run Tryz.prog w = .ok (.enter wf args) w) (wb : Ad -> Bool) (n₀ : Nat) (w0 : World) (hn0 : n₀ = w0.heap.size) (Wk : World -> Prop) (hWk : ∀ W W', Wk W -> Below n₀ W W' -> KeepsT A W W' -> Wk W') (hwant : ∀ (a : Ad) (W : World), Wk W -> Calls Tryz.prog wf (#[adW a] ++ wl) W fun e W' => e = .returned (.bool (wb a)) /\ Gr W W')
    (n : Nat) (hn : 8 <= n) (Bg Bw gb mb : Nat) (M : GM) (hG : GridIs w0 gb mb M) (w : World) (hW : Below n₀ w0 w) (hWkW : Wk w) (hBg : Bg < w.heap.size) (hcg : w.cell? ⟨Bg, 0, none⟩ = some (.pointer (some ⟨gb, 0, none⟩))) (hcw : w.heap[Bw]? = some (.cells #[.func (.func wf) #[] wl] 99 (0, 0))) (hA0 : ∀ k, w.heap.size <= k -> A (2 * k + 1) = false := by intros; rfl) :
    zXS n Tryz.prog 116 #[v_ Bg, v_ Bw] teV (fun W W' => Below n₀ W W' /\ KeepsT A W W') (toldM M) (z2c M wb) (fun pre => ∃ i, z2c (M.take i) wb pre) M.length w := fun l J Jx W hB hJ _ hY h0 =>
 yDs A wf wl ew wb n₀ w0 hn0 Wk hWk hwant n hn l Bg Bw gb mb M hG J Jx W (hA0 _ hB.size) (hW.trans (hB.mono (by have := hW.size; omega))) (hWk _ _ hWkW (hB.mono (by have := hW.size; omega)) (KeepsT.of_xt hB)) hJ
  ((hB.cell (p := ⟨Bg, 0, none⟩) hBg).trans hcg) ((hB.block _ (g_ hcw).1).trans hcw) hY h0
end
end Go.Proofs.YtdoeejhdenifpaaGreatDoor
