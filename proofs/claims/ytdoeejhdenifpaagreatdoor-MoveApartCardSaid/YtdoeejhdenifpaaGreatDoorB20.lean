import Derived.Test.YtdoeejhdenifpaaGreatDoorB13
import Derived.Test.YtdoeejhdenifpaaGreatDoorB5
import Derived.Deep.RegionHeld3
import Derived.Shelf.SlMaps.Clone
import Derived.Shelf.SlIter.Keys
import Derived.RangeFuncNested
import Derived.RangeFuncBound
import Derived.RangeFuncCalls
import Derived.RangeFuncLeaves
import Derived.Shelf.RegionOpen
import Derived.OwnWalkIn
import Derived.TacticsInMore
import Derived.LoopNIn
import Derived.LoopIn
import Derived.Maps.AppendAt
import Derived.Shelf.Abstract
set_option maxRecDepth 100000
set_option maxHeartbeats 16000000
namespace Go.Proofs.YtdoeejhdenifpaaGreatDoor
section
open Go.RowKit Go.Sort Go.MapKept
section
variable {α : Type}
def lkM (a : Ad) : List (Ad × α) -> Option α
 | [] => none
 | x :: r => if x.1 = a then some x.2 else lkM a r
def setM (a : Ad) (l : α) : List (Ad × α) -> List (Ad × α)
 | [] => [(a, l)]
 | x :: r => if x.1 = a then (a, l) :: r else if adLt a x.1 = true then (a, l) :: x :: r else x :: setM a l r
def delM (a : Ad) (M : List (Ad × α)) : List (Ad × α) := M.filter (fun x => !decide (x.1 = a))
def yJ0 (M : List (Ad × α)) : Prop := M.Pairwise (fun x y => adLt x.1 y.1 = true)
theorem lkM_none {a : Ad} : ∀ {M : List (Ad × α)}, lkM a M = none ↔ ∀ x ∈ M, x.1 ≠ a
 | [] => by simp [lkM]
 | x :: r => by
  unfold lkM;by_cases hx : x.1 = a
  . simp [hx]
  . simp only [hx, if_false, List.mem_cons, forall_eq_or_imp];rw [lkM_none (M := r)];exact ⟨fun h => ⟨hx, h⟩, fun h => h.2⟩
theorem zL0 {a : Ad} {l : α} : ∀ {M : List (Ad × α)}, lkM a M = some l -> (a, l) ∈ M
 | [], h => by simp [lkM] at h
 | x :: r, h => by
  unfold lkM at h;by_cases hx : x.1 = a
  . simp only [hx, if_true, Option.some.injEq] at h;subst h; subst hx; simp
  . simp only [hx, if_false] at h;exact List.mem_cons_of_mem _ (zL0 h)
theorem yhX (a b : Ad) (l : α) : ∀ (M : List (Ad × α)), lkM b (setM a l M) = if a = b then some l else lkM b M
 | [] => by simp [setM, lkM]
 | x :: r => by
  unfold setM;by_cases hx : x.1 = a
  . simp only [hx, if_true];unfold lkM;by_cases hab : a = b
    . simp [hab]
    . have : ¬ x.1 = b := fun e => hab (hx.symm.trans e);simp [hab, this]
  . simp only [hx, if_false];by_cases hl : adLt a x.1 = true
    . simp only [hl, if_true]
      conv => lhs; unfold lkM
    . simp only [hl, Bool.false_eq_true, if_false];unfold lkM;by_cases hb : x.1 = b
      . have : ¬ a = b := fun e => hx (hb.trans e.symm);simp [hb, this]
      . simp only [hb, if_false];exact yhX a b l r
theorem jZs (a : Ad) : adLt a a = false := swo_ad.irrefl a
theorem jP0 (a b : Ad) : a = b \/ adLt a b = true \/ adLt b a = true := by
 simp only [yFF, Prod.ext_iff]; omega
theorem yla {a : Ad} {l : α} : ∀ {M : List (Ad × α)} {x : Ad × α}, x ∈ setM a l M -> x = (a, l) \/ x ∈ M
 | [], x, h => by simp [setM] at h; exact Or.inl h
 | y :: r, x, h => by
  unfold setM at h;split at h
  . simp at h; rcases h with h | h
    . exact Or.inl h
    . exact Or.inr (by simp [h])
  . split at h
    . simp at h; rcases h with h | h | h
      . exact Or.inl h
      . exact Or.inr (by simp [h])
      . exact Or.inr (by simp [h])
    . simp at h; rcases h with h | h
      . exact Or.inr (by simp [h])
      . rcases yla h with h | h
        . exact Or.inl h
        . exact Or.inr (by simp [h])
theorem zDO (a : Ad) (l : α) : ∀ {M : List (Ad × α)}, yJ0 M -> yJ0 (setM a l M)
 | [], _ => by simp [setM, yJ0]
 | x :: r, h => by
  obtain ⟨h1, h2⟩ := List.pairwise_cons.1 h;unfold setM;by_cases hx : x.1 = a
  . simp only [hx, if_true];exact List.pairwise_cons.2 ⟨fun y hy => by have := h1 y hy; rw [hx] at this; exact this, h2⟩
  . simp only [hx, if_false];by_cases hl : adLt a x.1 = true
    . simp only [hl, if_true];refine List.pairwise_cons.2 ⟨fun y hy => ?_, h⟩;rcases List.mem_cons.1 hy with rfl | hy
      . exact hl
      . exact swo_ad.trans _ _ _ hl (h1 y hy)
    . simp only [hl, Bool.false_eq_true, if_false];refine List.pairwise_cons.2 ⟨fun y hy => ?_, zDO a l h2⟩;rcases yla hy with rfl | hy
      . rcases jP0 a x.1 with e | e | e
        . exact absurd e.symm hx
        . exact absurd e hl
        . exact e
      . exact h1 y hy
theorem zES (a : Ad) {M : List (Ad × α)} (h : yJ0 M) : yJ0 (delM a M) := h.filter _
theorem yvi (a b : Ad) : ∀ (M : List (Ad × α)), lkM b (delM a M) = if a = b then none else lkM b M
 | [] => by simp [delM, lkM]
 | x :: r => by
  have ih := yvi a b r;unfold delM at ih ⊢;rw [List.filter_cons];by_cases hx : x.1 = a
  . simp only [hx, decide_true, Bool.not_true, Bool.false_eq_true, if_false];rw [ih];by_cases hab : a = b
    . simp [hab]
    . have : ¬ x.1 = b := fun e => hab (hx.symm.trans e);simp [hab, lkM, this]
  . simp only [hx, decide_false, Bool.not_false, if_true];unfold lkM;by_cases hb : x.1 = b
    . have : ¬ a = b := fun e => hx (hb.trans e.symm);simp [hb, this]
    . simp only [hb, if_false];exact ih
theorem jtU {M : List (Ad × α)} (h : yJ0 M) : (M.map (·.1)).Nodup := by
 unfold List.Nodup;rw [List.pairwise_map];exact h.imp fun hlt e => by rw [e, jZs] at hlt; cases hlt
theorem jle {a : Ad} {E : List (Ad × Value)} : (lk a E).isSome = true ↔ a ∈ E.map (·.1) := by
 cases h : lk a E with
 | none =>
  have := lk_none.1 h;simp only [Option.isSome_none, Bool.false_eq_true, false_iff, List.mem_map, not_exists, not_and];exact this
 | some v =>
  simp only [Option.isSome_some, true_iff];have : ¬ (lk a E = none) := (by rw [h]; simp);rw [lk_none] at this;simp only [ne_eq, Classical.not_forall, Classical.not_not, exists_prop] at this;obtain ⟨x, hx, he⟩ := this;exact List.mem_map.2 ⟨x, hx, he⟩
theorem zT0 {a : Ad} {M : List (Ad × α)} : (lkM a M).isSome = true ↔ a ∈ M.map (·.1) := by
 cases h : lkM a M with
 | none =>
  have := lkM_none.1 h;simp only [Option.isSome_none, Bool.false_eq_true, false_iff, List.mem_map, not_exists, not_and];exact this
 | some v =>
  simp only [Option.isSome_some, true_iff];exact List.mem_map.2 ⟨_, zL0 h, rfl⟩
theorem zzR {a : Ad} {l : α} : ∀ {M : List (Ad × α)}, yJ0 M -> (lkM a M).isSome = true -> (setM a l M).length = M.length
 | [], _, h => by simp [lkM] at h
 | x :: r, hs, h => by
  obtain ⟨h1, h2⟩ := List.pairwise_cons.1 hs;unfold setM;by_cases hx : x.1 = a
  . simp [hx]
  . unfold lkM at h;simp only [hx, if_false] at h ⊢;by_cases hl : adLt a x.1 = true
    . exfalso;obtain ⟨y, hy⟩ := Option.isSome_iff_exists.1 h;have := h1 _ (zL0 hy);have h3 := swo_ad.trans _ _ _ hl this;rw [jZs] at h3; cases h3
    . simp only [hl, Bool.false_eq_true, if_false, List.length_cons];rw [zzR h2 h]
theorem yCC {a : Ad} {l : α} : ∀ {M : List (Ad × α)}, (setM a l M).length <= M.length + 1
 | [] => by simp [setM]
 | x :: r => by
  unfold setM;split
  . simp
  . split
    . simp
    . simp only [List.length_cons]; have := yCC (a := a) (l := l) (M := r); omega
end
theorem lk_up (a b : Ad) (v : Value) (E : List (Ad × Value)) : lk b (upE a v E) = if a = b then some v else lk b E := by
 unfold upE;cases hs : (lk a E).isSome with
 | true =>
  simp only [if_true]
  induction E with
  | nil => simp [lk] at hs
  | cons x r ih =>
   simp only [List.map_cons];unfold lk at hs ⊢;by_cases hx : x.1 = a
   . simp only [hx, if_true];by_cases hab : a = b
     . simp [hab]
     . have hxb : ¬ x.1 = b := fun e => hab (hx.symm.trans e);simp only [hab, if_false];clear ih hs
       induction r with
       | nil => simp [lk]
       | cons y r ih2 =>
        simp only [List.map_cons];unfold lk;by_cases hy : y.1 = a
        . have hyb : ¬ y.1 = b := fun e => hab (hy.symm.trans e);simp only [hy, if_true, hab, if_false];exact ih2
        . simp only [hy, if_false];by_cases hyb : y.1 = b
          . simp [hyb]
          . simp only [hyb, if_false]; exact ih2
   . simp only [hx, if_false] at hs ⊢;by_cases hxb : x.1 = b
     . have : ¬ a = b := fun e => hx (hxb.trans e.symm);simp [hxb, this]
     . simp only [hxb, if_false]; exact ih hs
 | false =>
  simp only [Bool.false_eq_true, if_false];have hn : lk a E = none := by simpa using hs
  induction E with
  | nil => simp [lk]
  | cons x r ih =>
   unfold lk at hn;by_cases hx : x.1 = a
   . simp [hx] at hn
   . simp only [hx, if_false] at hn;simp only [List.cons_append];unfold lk;by_cases hxb : x.1 = b
     . have : ¬ a = b := fun e => hx (hxb.trans e.symm);simp [hxb, this]
     . simp only [hxb, if_false];exact ih (by simp [hn]) hn
theorem lk_dl (a b : Ad) : ∀ (E : List (Ad × Value)), lk b (dlE a E) = if a = b then none else lk b E
 | [] => by simp [dlE, lk]
 | x :: r => by
  have ih := lk_dl a b r;unfold dlE at ih ⊢;rw [List.filter_cons];by_cases hx : x.1 = a
  . simp only [hx, decide_true, Bool.not_true, Bool.false_eq_true, if_false];rw [ih];by_cases hab : a = b
    . simp [hab]
    . have : ¬ x.1 = b := fun e => hab (hx.symm.trans e);simp [hab, lk, this]
  . simp only [hx, decide_false, Bool.not_false, if_true];unfold lk;by_cases hb : x.1 = b
    . have : ¬ a = b := fun e => hx (hb.trans e.symm);simp [hb, this]
    . simp only [hb, if_false];exact ih
theorem MapIs.nocell {w : World} {b : Nat} {E : List (Ad × Value)} (h : MapIs w b E) (o : Nat) : w.cell? ⟨b, o, none⟩ = none := by
 obtain ⟨es, c, h1, _⟩ := h;simp [World.cell?, h1]
theorem y50 {l ks : List Ad} (hl : l.Pairwise (fun x y => adLt x y = true)) (hp : ks.Perm l) : yoF adLt ks = l := by
 refine List.Perm.eq_of_pairwise (le := fun x y => (!adLt y x) = true) ?_ ?_ ?_ ((List.mergeSort_perm _ _).trans hp)
 . intro a b _ _ h1 h2;exact tot_ad a b (by simpa using h2) (by simpa using h1)
 . refine List.pairwise_mergeSort (fun a b c h1 h2 => ?_) (fun a b => ?_) ks
   . simp only [Bool.not_eq_true', jme] at *; omega
   . simp only [Bool.or_eq_true, Bool.not_eq_true', jme]; omega
 . refine hl.imp fun {a b} h => ?_;simp only [Bool.not_eq_true', jme];rw [yFF] at h; omega
abbrev CE := ContT × Option Addr
abbrev GM := List (Ad × CE)
abbrev ceV (x : CE) : Value := jEC x.1 x.2 x.1.t.args.length x.1.t.args.length
def ceIn (w : World) (x : CE) : Prop := yQE x.1.t /\ ∃ n, ArgsIn w n (.slice x.2 x.1.t.args.length x.1.t.args.length) x.1.t.args
structure GridIs (w : World) (gb mb : Nat) (M : GM) : Prop where
 cell : w.cell? ⟨gb, 0, none⟩ = some (.map (some mb))
 map : ∃ E, MapIs w mb E /\ ∀ a, lk a E = (lkM a M).map ceV
 sorted : yJ0 M
 args : ∀ x ∈ M, ceIn w x.2
 many : M.length <= 4096
def CellsIn (w w' : World) : Prop := ∀ b o u, w.cell? ⟨b, o, none⟩ = some u -> w'.cell? ⟨b, o, none⟩ = some u
theorem CellsIn.refl (w : World) : CellsIn w w := fun _ _ _ h => h
theorem CellsIn.trans {a b c : World} (h : CellsIn a b) (k : CellsIn b c) : CellsIn a c := fun _ _ _ hu => k _ _ _ (h _ _ _ hu)
theorem Xt.cellsIn {w w' : World} (h : Xt w w') : CellsIn w w' := fun b o _u hu => ((h.cells).1 b o (b_ w _ hu)).trans hu
theorem CellsIn.of_grown {w w' : World} {mb : Nat} {E : List (Ad × Value)} (hm : MapIs w mb E) (h : w.grownBy w' (some mb)) : CellsIn w w' := fun b o u hu => by
 have hne : b ≠ mb := fun e => by subst e; rw [hm.nocell] at hu; cases hu
 exact (d_ (w := w) (a := ⟨b, o, none⟩) (h.block b (b_ w _ hu) (fun e => hne (by cases e; rfl)))).trans hu
theorem ArgsIn.kept {w w' : World} (hx : CellsIn w w') : ∀ {n : Nat} {av : Value} {l : List NodeT}, ArgsIn w n av l -> ArgsIn w' n av l
 | 0, _, _, h => h
 | n + 1, _, _, h => by
  obtain ⟨a, cap, rfl, h1, h2, h3⟩ := h;refine ⟨a, cap, rfl, h1, h2, fun hne => ?_⟩;obtain ⟨b, off, rfl, hc⟩ := h3 hne;refine ⟨b, off, rfl, fun k t ht => ?_⟩;obtain ⟨av', hcell, hin⟩ := hc k t ht;exact ⟨av', fun i u hu => hx _ _ _ (hcell i u hu), hin.kept hx⟩
theorem ceIn.kept {w w' : World} {x : CE} (h : ceIn w x) (hx : CellsIn w w') : ceIn w' x := ⟨h.1, let ⟨n, hn⟩ := h.2; ⟨n, hn.kept hx⟩⟩
theorem GridIs.lt {w : World} {gb mb : Nat} {M : GM} (h : GridIs w gb mb M) : gb < w.heap.size /\ mb < w.heap.size := ⟨b_ w _ h.cell, let ⟨_, hm, _⟩ := h.map; hm.lt⟩
theorem GridIs.ne {w : World} {gb mb : Nat} {M : GM} (h : GridIs w gb mb M) : gb ≠ mb := by
 intro e;obtain ⟨E, hm, _⟩ := h.map;have := h.cell;rw [e, hm.nocell] at this; cases this
theorem GridIs.kept {w w' : World} {gb mb : Nat} {M : GM} (h : GridIs w gb mb M) (hx : CellsIn w w') (hm : w'.heap[mb]? = w.heap[mb]?) : GridIs w' gb mb M :=
 ⟨hx _ _ _ h.cell, let ⟨E, q1, q2⟩ := h.map; ⟨E, q1.of_heap hm, q2⟩, h.sorted, fun x hx' => (h.args x hx').kept hx, h.many⟩
theorem GridIs.xt {w w' : World} {gb mb : Nat} {M : GM} (h : GridIs w gb mb M) (hx : Xt w w') : GridIs w' gb mb M := h.kept hx.cellsIn (hx.block mb h.lt.2)
theorem GridIs.len {w : World} {gb mb : Nat} {M : GM} {E : List (Ad × Value)} (h : GridIs w gb mb M) (hm : MapIs w mb E) (he : ∀ a, lk a E = (lkM a M).map ceV) : E.length = M.length := by
 have hp : (E.map (·.1)).Perm (M.map (·.1)) := by
  refine (List.perm_ext_iff_of_nodup hm.nodup (jtU h.sorted)).2 fun a => ?_;rw [<- jle, <- zT0, he a]; simp
 have := hp.length_eq;simpa using this
theorem GridIs.keys {w : World} {gb mb : Nat} {M : GM} {E : List (Ad × Value)} (h : GridIs w gb mb M) (hm : MapIs w mb E) (he : ∀ a, lk a E = (lkM a M).map ceV) : (E.map (·.1)).Perm (M.map (·.1)) := by
 refine (List.perm_ext_iff_of_nodup hm.nodup (jtU h.sorted)).2 fun a => ?_;rw [<- jle, <- zT0, he a]; simp
theorem GridIs.put {w w' : World} {gb mb : Nat} {M : GM} (h : GridIs w gb mb M) (hx : CellsIn w w') {E' : List (Ad × Value)} {E : List (Ad × Value)} (he : ∀ a, lk a E = (lkM a M).map ceV) {a : Ad} {x : CE} (hE : E' = upE a (ceV x) E) (hm : MapIs w' mb E') (hxi : ceIn w' x) (hl : (setM a x M).length <= 4096) : GridIs w' gb mb (setM a x M) := by
 refine ⟨hx _ _ _ h.cell, ⟨E', hm, fun b => ?_⟩, zDO a x h.sorted, fun y hy => ?_, hl⟩
 . rw [hE, lk_up, yhX, he b];split <;> simp
 . rcases yla hy with rfl | hy
   . exact hxi
   . exact (h.args y hy).kept hx
theorem GridIs.del {w w' : World} {gb mb : Nat} {M : GM} (h : GridIs w gb mb M) (hx : CellsIn w w') {E' : List (Ad × Value)} {E : List (Ad × Value)} (he : ∀ a, lk a E = (lkM a M).map ceV) {a : Ad} (hE : E' = dlE a E) (hm : MapIs w' mb E') : GridIs w' gb mb (delM a M) := by
 refine ⟨hx _ _ _ h.cell, ⟨E', hm, fun b => ?_⟩, zES a h.sorted, fun y hy => (h.args y (List.mem_filter.1 hy).1).kept hx, Nat.le_trans (List.length_filter_le ..) h.many⟩;rw [hE, lk_dl, yvi, he b];split <;> simp
theorem boxR (w : World) (x : CE) : ∃ wZ wR, w.alloc (.cells zC 51) = wZ /\ wZ.setRow w.heap.size #[.int .i64 x.1.kind, .int .i64 x.1.v.kind, .float .f64 x.1.v.x, .string x.1.v.s, .bool x.1.v.b, .int .i64 x.1.v.f, .int .i64 x.1.t.kind, .int .i64 x.1.t.op, .float .f64 x.1.t.x, .string x.1.t.s, .bool x.1.t.b, .int .i64 x.1.t.f, .int .i64 x.1.t.ref.a.1, .int .i64 x.1.t.ref.a.2, .bool x.1.t.ref.cf, .bool x.1.t.ref.rf, .int .i64 x.1.t.to.a.1, .int .i64 x.1.t.to.a.2, .bool x.1.t.to.cf, .bool x.1.t.to.rf, .slice x.2 x.1.t.args.length x.1.t.args.length] = wR /\ r_ wZ w.heap.size zC 51 /\ r_ wR w.heap.size (rQ x.1 (.slice x.2 x.1.t.args.length x.1.t.args.length)) 51 /\ Xt w wR /\ wR.heap.size = w.heap.size + 1 /\ Xt w wZ /\ wZ.heap.size = w.heap.size + 1 := by
 have h1 := (a_ w (.cells zC 51)).1;refine ⟨_, _, rfl, rfl, h1, setRow_heap _ _ _ _ _ _ h1, ((Xt.refl w).alloc _).grownB (jGX _ _ _) (fun m hm => by cases hm; exact Nat.le_refl _), by simp, (Xt.refl w).alloc _, by simp⟩
end
section
open Go.RowKit Go.Sort
theorem stoodAd : Tryz.prog.stoodInHeld 24 = false := by kernel_rfl
theorem undAd : Tryz.prog.underlying 24 = some (.struct (Tryz.prog.fieldsOf 24)) := by kernel_rfl
theorem eqAd (w : World) (a b : Ad) : (Op.equal 24 (adV a) (adV b)).run Tryz.prog w = .ok (decide (a = b)) w := by
 obtain ⟨a1, a2⟩ := a;obtain ⟨b1, b2⟩ := b;have h := run_equalIn_struct (P := Tryz.prog) w 9999 24 #[.int .i64 a1, .int .i64 a2] #[.int .i64 b1, .int .i64 b2] undAd stoodAd;simp only [Op.equal, Op.maxDepth, adV];rw [show (10000 : Nat) = 9999 + 1 from rfl, h];simp only [Program.fieldsOf, Tryz.underlying24];go_simp;by_cases h1 : a1 = b1 <;> by_cases h2 : a2 = b2 <;> simp [h1, h2]
theorem checkAd (w : World) (em : Bool) (a : Ad) : (Instr.checkKey em 10000 24 (adV a)).run Tryz.prog w = .ok () w := by
 rw [show (10000 : Nat) = 9998 + 1 + 1 from rfl, Instr.checkKey];simp only [adV, Sem.run_bind, run_underlying Tryz.underlying24, Result.andThen_ok];go_simp;have h3 : ∀ n W, (Instr.checkKey em 9999 3 (Value.int IntKind.i64 n)).run Tryz.prog W = .ok () W := fun n W => MapKept.run_checkKey (P := Tryz.prog) (w := W) Tryz.underlying3 (by simp [MapKept.IsKey]) em 9998;simp only [h3, Result.andThen_ok]
theorem z2M : AdrKey Tryz.prog 24 := ⟨⟨_, Tryz.underlying24⟩, checkAd, eqAd⟩
def zeroC : ContT := ⟨0, ⟨0, 0, ⟨#[]⟩, false, 0⟩, .mk 0 0 0 ⟨#[]⟩ false 0 ⟨(0, 0), false, false⟩ ⟨(0, 0), false, false⟩ []⟩
theorem jjQ (w : World) : (zeroValue 51).run Tryz.prog w = .ok (jEC zeroC none 0 0) w := by kernel_rfl
theorem GridIs.look {w : World} {gb mb : Nat} {M : GM} (h : GridIs w gb mb M) (a : Ad) : ∃ E, MapIs w mb E /\ (∀ a, lk a E = (lkM a M).map ceV) /\ (lk a E).getD (jEC zeroC none 0 0) = ceV ((lkM a M).getD (zeroC, none)) := by
 obtain ⟨E, hm, he⟩ := h.map;refine ⟨E, hm, he, ?_⟩;rw [he a];cases lkM a M <;> rfl
theorem GridIs.lookIn {w : World} {gb mb : Nat} {M : GM} (h : GridIs w gb mb M) (a : Ad) : ceIn w ((lkM a M).getD (zeroC, none)) := by
 cases hl : lkM a M with
 | none => exact ⟨by simp [zeroC, yQE, joP], 0, ⟨rfl, none, 0, rfl, by simp⟩⟩
 | some x => exact h.args _ (zL0 hl)
theorem zPb (w : World) : Calls Tryz.prog 35 #[] w fun e w' => e = .returned (v_ (w.heap.size + 1)) /\ GridIs w' (w.heap.size + 1) w.heap.size [] /\ Gr w w' := by
 have hmm := @run_makeMap Tryz.prog;go_enter Tryz.func35, Tryz.ntmps35;go_wp2;go_ret;refine ⟨rfl, ⟨by simp, ⟨[], ?_, fun a => rfl⟩, List.Pairwise.nil, (fun x hx => by cases hx), by simp⟩, ((Gr.refl _).alloc _).alloc _⟩;rw [juf _ _ _ _ (by simp)]; exact MapIs.made w
theorem yIk (gb mb : Nat) (M : GM) (w : World) (h : GridIs w gb mb M) : Calls Tryz.prog 19 #[v_ gb] w fun e w' => e = .returned (.int .i64 M.length) /\ w = w' := by
 have hc := h.cell;obtain ⟨E, hm, he⟩ := h.map;have hl : ∀ ty, (Builtin.len_ #[100] ty #[.map (some mb)]).run Tryz.prog w = .ok (.int .i64 M.length) w := fun ty => by rw [<- h.len hm he]; exact hm.len Tryz.underlying100
 clear hm he h;go_enter Tryz.func19, Tryz.ntmps19;go_wp2;go_ret;exact ⟨rfl, rfl⟩
theorem yLO (gb mb : Nat) (M : GM) (a : Ad) (w : World) (h : GridIs w gb mb M) : Calls Tryz.prog 15 #[v_ gb, .agg #[a.1, a.2]] w fun e w' =>
    ∃ n a', e = .returned (ysf ((lkM a M).getD (zeroC, none)).1 a') /\ ArgsS (fun b => w.heap.size <= b) w' n (.slice a' ((lkM a M).getD (zeroC, none)).1.t.args.length ((lkM a M).getD (zeroC, none)).1.t.args.length) (jEz ((lkM a M).getD (zeroC, none)).1.t.args) /\ Xt w w' := by
 obtain ⟨w0, hw0, hb0, hs0, c0, c1⟩ := box1 w a.1 a.2 24;have hx0 : Xt w w0 := (by rw [<- hw0]; exact (Xt.refl _).alloc _);obtain ⟨hsm, n, hin⟩ := h.lookIn a;obtain ⟨E, hm, he, hlk⟩ := h.look a;generalize (lkM a M).getD (zeroC, none) = x at hsm hin hlk ⊢;obtain ⟨x, xa⟩ := x;obtain ⟨wS, hwS⟩ := e_ (w0.alloc (.cells zC 51));have hxS : Xt w wS := by rw [<- hwS]; exact hx0.alloc _
 have hrS : wS.heap[w.heap.size + 1]? = some (.cells zC 51 (0, 0)) := (by rw [<- hwS, <- hs0]; exact (a_ w0 _).1);have hl : (Instr.lookup 100 (.map (some mb)) (.agg #[a.1, a.2]) false).run Tryz.prog wS.drew = .ok (jEC x xa x.t.args.length x.t.args.length) wS.drew := by
  have := (hm.of_heap (hxS.block mb hm.lt) : MapIs wS mb E).lookup (w := wS.drew) (P := Tryz.prog) (t := 100) (k := 24) (e := 51) z2M Tryz.underlying100 jjQ a;rw [hlk] at this; exact this
 have hc := h.cell;have hcS := ((hxS.cells).1 gb 0 h.lt.1).trans hc;have d0 : wS.cell? ⟨w.heap.size, 0, none⟩ = some (.int .i64 a.1) := (by rw [<- hwS]; exact (d_ (w := w0) (a := ⟨w.heap.size, 0, none⟩) (Below.heap_alloc w0 _ _ (by show w.heap.size < _; omega))).trans c0);have d1 : wS.cell? ⟨w.heap.size, 1, none⟩ = some (.int .i64 a.2) := (by rw [<- hwS]; exact (d_ (w := w0) (a := ⟨w.heap.size, 1, none⟩) (Below.heap_alloc w0 _ _ (by show w.heap.size < _; omega))).trans c1);have HXS := h_ hxS;have HRS := h_ hrS;have HGC := h_ (yN8 n x xa x.t.args.length wS.drew hsm (hin.xt hxS.drew));clear hm he hlk hb0 hx0 hxS hrS hsm hin h
 go_enter Tryz.func15, Tryz.ntmps15;go_wp2_with fail;refine wp_region_still_tail 6 (by kernel_rfl) (by kernel_rfl) ?_;change wpStill _ _ (World.drew _) _ _ _;simp only [List.take_succ_cons, List.take_zero, List.drop_succ_cons, List.drop_zero]
 still_step
 still_step
 still_step
 still_step
 still_step
 still_step
 refine wpStill_nil ?_;change wpList _ _ _ _ _ (World.drew _);refine wpList_step (fun K hK => ?_);go_simp;refine HGC.out.mono ?_;rintro e w5 ⟨a', rfl, hA, hx5⟩;refine hK _ _ ?_;clear hK K;have hr5 := (hx5.block (w.heap.size + 1) ((g_ HRS.out).1)).trans HRS.out;obtain ⟨w6, hw6⟩ := e_ (w5.setRow (w.heap.size + 1) (ysf x a').cells);have hg6 : w5.grownBy w6 (some (w.heap.size + 1)) := (by rw [<- hw6]; exact jGX _ _ _);have hr6 : w6.heap[w.heap.size + 1]? = some (.cells (ysf x a').cells 51 (0, 0)) := by rw [<- hw6]; exact setRow_heap w5 _ _ _ _ _ hr5
 refine w_ (P := Tryz.prog) rfl 51 _ _ rfl (w.heap.size + 1) (ysf x a').cells rfl rfl 51 _ hr5 (by kernel_rfl) rfl (by rw [ysU]; simp [Value.cells, Value.oneCell']) ?_;rw [hw6];have HR6 := h_ hr6;have HG6 := h_ hg6;have HX5 := h_ hx5;have HA := h_ hA;clear hr5 hw6 hg6 hr6 hx5 hA;go_wp2_with fail
 (try simp only [Exit.inBlock, Exit.then])
 refine p_ (t_ rfl _ _ (w.heap.size + 1) _ _ _ _ rfl HR6.out Tryz.underlying51 rfl (by kernel_rfl)) rfl ?_;have hsz : w.heap.size + 1 < wS.heap.size := (g_ HRS.out).1;have hdr : wS.drew.heap.size = wS.heap.size := rfl;refine ⟨n, a', rfl, HA.out.keep (fun b hb hlt => ?_) (fun b o hb hlt => ?_), ?_⟩
 . omega
 . exact d_ (w := w5) (a := ⟨b, o, none⟩) (HG6.out.block b hlt (fun e => by cases e; omega))
 . exact ((HXS.out.drew).trans HX5.out).grownB HG6.out (fun m hm => by cases hm; omega)
def j6H (M : GM) (a : Ad) : Bool := !(lkM a M).isSome && decide (4096 <= M.length)
def zWI (M : GM) (a : Ad) (c : ContT) : Int := if yQy c = false then 1 else if y8L a.1 a.2 = false then 20 else if (c.kind == 0) = true then 0 else if j6H M a = true then 41 else 0
def j4E (M : GM) (a : Ad) (c : ContT) (x : Option Addr) : GM := if yQy c = false then M else if y8L a.1 a.2 = false then M else if (c.kind == 0) = true then delM a M else if j6H M a = true then M else setM a (jNS c, x) M
def PutR (w : World) (gb mb : Nat) (M : GM) (a : Ad) (c : ContT) (e : Ending) (w' : World) : Prop := ∃ x, e = .returned (.int .i64 (zWI M a c)) /\ GridIs w' gb mb (j4E M a c x) /\ w.grownBy w' (some mb)
mutual
theorem jXA : ∀ t, yQE t -> yQE (copyT t)
 | .mk k op x s b f r q args, h => by simp only [copyT, yQE] at h ⊢; exact ⟨by rw [j3y]; simpa using h.1, yT6 args h.2⟩
theorem yT6 : ∀ l, joP l -> joP (jEz l)
 | [], h => h
 | t :: l, h => by simp only [jEz, joP] at h ⊢; exact ⟨jXA t h.1, yT6 l h.2⟩
end
structure PutW (w w3 : World) (gb mb : Nat) (E : List (Ad × Value)) (a : Ad) (c : ContT) (ca : Option Addr) (cap : Nat) : Prop where
 xt : Xt w w3
 at_ : w3.heap[w.heap.size]? = some (.cells #[a.1, a.2] 24 (0, 0))
 con : w3.heap[w.heap.size + 1]? = some (.cells (rQ c (.slice ca c.t.args.length cap)) 51 (0, 0))
 cell : w3.cell? ⟨gb, 0, none⟩ = some (.map (some mb))
 map : MapIs w3 mb E
theorem PutW.step {w w3 w4 : World} {gb mb : Nat} {E : List (Ad × Value)} {a : Ad} {c : ContT} {ca : Option Addr} {cap : Nat} (h : PutW w w3 gb mb E a c ca cap) (hx : Xt w3 w4) : PutW w w4 gb mb E a c ca cap :=
 ⟨h.xt.trans hx, (hx.block _ (g_ h.at_).1).trans h.at_, (hx.block _ (g_ h.con).1).trans h.con, hx.cellsIn _ _ _ h.cell, h.map.of_heap (hx.block mb h.map.lt)⟩
theorem PutW.ad {w w3 : World} {gb mb : Nat} {E : List (Ad × Value)} {a : Ad} {c : ContT} {ca : Option Addr} {cap : Nat} (h : PutW w w3 gb mb E a c ca cap) : c_ w3 w.heap.size 0 a.1 /\ c_ w3 w.heap.size 1 a.2 := by
 have := h.at_;constructor <;> simp [World.cell?, this]
theorem PutW.kind {w w3 : World} {gb mb : Nat} {E : List (Ad × Value)} {a : Ad} {c : ContT} {ca : Option Addr} {cap : Nat} (h : PutW w w3 gb mb E a c ca cap) : w3.cell? ⟨w.heap.size + 1, 0, none⟩ = some (.int .i64 c.kind) := by
 have := h.con;simp [World.cell?, this]
theorem yqW {w : World} {gb mb : Nat} {M : GM} (h : GridIs w gb mb M) (a : Ad) (c : ContT) (ca : Option Addr) (cap : Nat) : ∃ E, (∀ a, lk a E = (lkM a M).map ceV) /\ ∃ w1, (w.alloc (.cells #[a.1, a.2] 24)).alloc (.cells (rQ c (.slice ca c.t.args.length cap)) 51) = w1 /\ PutW w w1 gb mb E a c ca cap := by
 obtain ⟨E, hm, he⟩ := h.map;refine ⟨E, he, _, rfl, ?_⟩;have hx : Xt w ((w.alloc (.cells #[a.1, a.2] 24)).alloc (.cells (rQ c (.slice ca c.t.args.length cap)) 51)) := ((Xt.refl w).alloc _).alloc _;refine ⟨hx, ?_, ?_, hx.cellsIn _ _ _ h.cell, hm.of_heap (hx.block mb hm.lt)⟩
 . exact (Below.heap_alloc _ _ _ (by simp)).trans (a_ w _).1
 . have := (a_ (w.alloc (.cells #[a.1, a.2] 24)) (.cells (rQ c (.slice ca c.t.args.length cap)) 51)).1;simpa using this
theorem j4T (n : Nat) (gb mb : Nat) (M : GM) (a : Ad) (c : ContT) (ca : Option Addr) (cap : Nat) (w : World) (h : GridIs w gb mb M) (hok : c.ok) (hT : Tabs w) (hsm : yQE c.t) (hin : ArgsIn w n (.slice ca c.t.args.length cap) c.t.args) (hb : yQy c = false) : Calls Tryz.prog 25 #[v_ gb, .agg #[a.1, a.2], jEC c ca c.t.args.length cap] w fun e w' => e = .returned (.int .i64 1) /\ Xt w w' := by
 have H := h_ h;obtain ⟨E, he, w1, hw1, hP1⟩ := yqW h a c ca cap;have HE := h_ he;have HP1 := h_ hP1;have HLM : Hid (E.length = M.length) := h_ ((H.out.xt hP1.xt).len hP1.map he);have HIN := h_ hin;have HSM := h_ hsm;have HV := h_ (yMx n c ca cap w1 hok (hT.xt hP1.xt) (hin.xt hP1.xt));clear h he hP1 hin hsm hok hT;have HB := h_ hb;clear hb;go_enter Tryz.func25, Tryz.ntmps25;go_wp2_with (first
  | (refine HV.out.mono ?_; rintro e w2 ⟨rfl, hx2⟩; rw [HB.out]; have HP2 := h_ (HP1.out.step hx2); have hc2 := HP2.out.cell; obtain ⟨d0, d1⟩ := HP2.out.ad;  clear hx2)
  | (refine BigFrame.wpList_want (by rfl) (fun K hK => wp_load_row 51 _ rfl (w.heap.size + 1) rfl 51 _ (0, 0) _ HP1.out.con Tryz.underlying51 rfl (by kernel_rfl) (hK _ _ ?_)); clear hK K))
 go_ret;exact ⟨rfl, HP2.out.xt⟩
theorem gput_ad (n : Nat) (gb mb : Nat) (M : GM) (a : Ad) (c : ContT) (ca : Option Addr) (cap : Nat) (w : World) (h : GridIs w gb mb M) (hok : c.ok) (hT : Tabs w) (hsm : yQE c.t) (hin : ArgsIn w n (.slice ca c.t.args.length cap) c.t.args) (hb : yQy c = true) (hb2 : y8L a.1 a.2 = false) : Calls Tryz.prog 25 #[v_ gb, .agg #[a.1, a.2], jEC c ca c.t.args.length cap] w fun e w' => e = .returned (.int .i64 20) /\ Xt w w' := by
 have H := h_ h;obtain ⟨E, he, w1, hw1, hP1⟩ := yqW h a c ca cap;have HE := h_ he;have HP1 := h_ hP1;have HLM : Hid (E.length = M.length) := h_ ((H.out.xt hP1.xt).len hP1.map he);have HIN := h_ hin;have HSM := h_ hsm;have HV := h_ (yMx n c ca cap w1 hok (hT.xt hP1.xt) (hin.xt hP1.xt));clear h he hP1 hin hsm hok hT;have HB := h_ hb;have HB2 := h_ hb2;clear hb hb2;go_enter Tryz.func25, Tryz.ntmps25;go_wp2_with (first
  | (refine HV.out.mono ?_; rintro e w2 ⟨rfl, hx2⟩; rw [HB.out]; have HP2 := h_ (HP1.out.step hx2); have hc2 := HP2.out.cell; obtain ⟨d0, d1⟩ := HP2.out.ad;  clear hx2)
  | (refine (zzc a.1 a.2 w2).mono ?_; rintro e w3 ⟨rfl, hg3⟩; rw [HB2.out]; have HP3 := h_ (HP2.out.step hg3.xt); have hc3 := HP3.out.cell; obtain ⟨p0, p1⟩ := HP3.out.ad; have k3 := HP3.out.kind; clear hg3)
  | (refine BigFrame.wpList_want (by rfl) (fun K hK => wp_load_row 51 _ rfl (w.heap.size + 1) rfl 51 _ (0, 0) _ HP1.out.con Tryz.underlying51 rfl (by kernel_rfl) (hK _ _ ?_)); clear hK K))
 go_ret;exact ⟨rfl, HP3.out.xt⟩
theorem ydM (n : Nat) (gb mb : Nat) (M : GM) (a : Ad) (c : ContT) (ca : Option Addr) (cap : Nat) (w : World) (h : GridIs w gb mb M) (hok : c.ok) (hT : Tabs w) (hsm : yQE c.t) (hin : ArgsIn w n (.slice ca c.t.args.length cap) c.t.args) (hb : yQy c = true) (hb2 : y8L a.1 a.2 = true) (hk : (c.kind == 0) = true) : Calls Tryz.prog 25 #[v_ gb, .agg #[a.1, a.2], jEC c ca c.t.args.length cap] w fun e w' => e = .returned (.int .i64 0) /\ GridIs w' gb mb (delM a M) /\ w.grownBy w' (some mb) := by
 have H := h_ h;obtain ⟨E, he, w1, hw1, hP1⟩ := yqW h a c ca cap;have HE := h_ he;have HP1 := h_ hP1;have HLM : Hid (E.length = M.length) := h_ ((H.out.xt hP1.xt).len hP1.map he);have HIN := h_ hin;have HSM := h_ hsm;have HV := h_ (yMx n c ca cap w1 hok (hT.xt hP1.xt) (hin.xt hP1.xt));clear h he hP1 hin hsm hok hT;have HB := h_ hb;have HB2 := h_ hb2;clear hb hb2;go_enter Tryz.func25, Tryz.ntmps25;go_wp2_with (first
  | (refine HV.out.mono ?_; rintro e w2 ⟨rfl, hx2⟩; rw [HB.out]; have HP2 := h_ (HP1.out.step hx2); have hc2 := HP2.out.cell; obtain ⟨d0, d1⟩ := HP2.out.ad;  clear hx2)
  | (refine (zzc a.1 a.2 w2).mono ?_; rintro e w3 ⟨rfl, hg3⟩; rw [HB2.out]; have HP3 := h_ (HP2.out.step hg3.xt); have hc3 := HP3.out.cell; obtain ⟨p0, p1⟩ := HP3.out.ad; have k3 := HP3.out.kind; clear hg3)
  | (refine BigFrame.wpList_want (by rfl) (fun K hK => wp_load_row 51 _ rfl (w.heap.size + 1) rfl 51 _ (0, 0) _ HP1.out.con Tryz.underlying51 rfl (by kernel_rfl) (hK _ _ ?_)); clear hK K))
 refine wp_region_still_tail 5 (by kernel_rfl) (by kernel_rfl) ?_;change wpStill _ _ (World.drew _) _ _ _;simp only [List.take_succ_cons, List.take_zero, List.drop_succ_cons, List.drop_zero]
 still_step
 still_step
 still_step
 still_step
 still_step
 refine wpStill_nil ?_;change wpList _ _ _ _ _ (World.drew _);refine jHv _ rfl _ _ 100 24 24 51 rfl z2M Tryz.underlying100 mb E rfl a.1 a.2 rfl (by exact HP3.out.map) ?_;intro w4 hm4 hg4 hs4;have HM4 := h_ hm4;have HG4 := h_ hg4;clear hm4 hg4;go_wp2_with fail;go_ret;have hg4' : w3.grownBy w4 (some mb) := ⟨HG4.out.os, HG4.out.tape, HG4.out.output, HG4.out.size, HG4.out.block⟩;refine ⟨rfl, H.out.del (HP3.out.xt.cellsIn.trans (CellsIn.of_grown HP3.out.map hg4')) HE.out rfl HM4.out, ?_⟩;have hx := HP3.out.xt
 exact ⟨hg4'.os.trans hx.os, hg4'.tape.trans hx.tape, hg4'.output.trans hx.output, Nat.le_trans hx.size hg4'.size, fun k hk hne => (hg4'.block k (Nat.lt_of_lt_of_le hk hx.size) hne).trans (hx.block k hk)⟩
theorem jkZ (n : Nat) (gb mb : Nat) (M : GM) (a : Ad) (c : ContT) (ca : Option Addr) (cap : Nat) (w : World) (h : GridIs w gb mb M) (hok : c.ok) (hT : Tabs w) (hsm : yQE c.t) (hin : ArgsIn w n (.slice ca c.t.args.length cap) c.t.args) (hb : yQy c = true) (hb2 : y8L a.1 a.2 = true) (hk : (c.kind == 0) = false) (his : (lkM a M).isSome = false) (hfu : j6H M a = true) : Calls Tryz.prog 25 #[v_ gb, .agg #[a.1, a.2], jEC c ca c.t.args.length cap] w fun e w' => e = .returned (.int .i64 41) /\ Xt w w' := by
 have H := h_ h;obtain ⟨E, he, w1, hw1, hP1⟩ := yqW h a c ca cap;have HE := h_ he;have HP1 := h_ hP1;have HLM : Hid (E.length = M.length) := h_ ((H.out.xt hP1.xt).len hP1.map he);have HIN := h_ hin;have HSM := h_ hsm;have HV := h_ (yMx n c ca cap w1 hok (hT.xt hP1.xt) (hin.xt hP1.xt));clear h he hP1 hin hsm hok hT;have HIS : Hid ((lk a E).isSome = false) := (by have h0 := HE.out a; rw [h0, Option.isSome_map]; exact his);obtain ⟨⟨X, xa⟩, hX⟩ : ∃ x, (lkM a M).getD (zeroC, none) = x := ⟨_, rfl⟩
 have HX : Hid ((lk a E).getD (jEC zeroC none 0 0) = jEC X xa X.t.args.length X.t.args.length) := (by rw [HE.out]; revert hX; cases lkM a M <;> (intro hX; cases hX; rfl));have HLE : Hid (4096 <= M.length) := h_ (by unfold j6H at hfu; rw [his] at hfu; simpa using hfu);clear hfu his hX;have HB := h_ hb;have HB2 := h_ hb2;clear hb hb2;go_enter Tryz.func25, Tryz.ntmps25;go_wp2_with (first
  | (refine HV.out.mono ?_; rintro e w2 ⟨rfl, hx2⟩; rw [HB.out]; have HP2 := h_ (HP1.out.step hx2); have hc2 := HP2.out.cell; obtain ⟨d0, d1⟩ := HP2.out.ad;  clear hx2)
  | (refine (zzc a.1 a.2 w2).mono ?_; rintro e w3 ⟨rfl, hg3⟩; rw [HB2.out]; have HP3 := h_ (HP2.out.step hg3.xt); have hc3 := HP3.out.cell; obtain ⟨p0, p1⟩ := HP3.out.ad; have k3 := HP3.out.kind; clear hg3)
  | (refine BigFrame.wpList_want (by rfl) (fun K hK => wp_load_row 51 _ rfl (w.heap.size + 1) rfl 51 _ (0, 0) _ HP1.out.con Tryz.underlying51 rfl (by kernel_rfl) (hK _ _ ?_)); clear hK K))
 have HL : Hid (∀ w', MapIs w' mb E -> (Instr.lookup 100 (.map (some mb)) (.agg #[a.1, a.2]) true).run Tryz.prog w' = .ok (.tuple #[jEC X xa X.t.args.length X.t.args.length, .bool false]) w') := fun w' hm => by
  have := hm.lookup_ok (P := Tryz.prog) (t := 100) (k := 24) (e := 51) z2M Tryz.underlying100 jjQ a;rw [HX.out, HIS.out] at this;exact this
 have hS3 : w3.drew.cell? ⟨gb, 0, none⟩ = some (.map (some mb)) /\ w3.drew.cell? ⟨w.heap.size, 0, none⟩ = some (.int .i64 a.1) /\ w3.drew.cell? ⟨w.heap.size, 1, none⟩ = some (.int .i64 a.2) /\ MapIs w3.drew mb E := ⟨hc3, p0, p1, HP3.out.map⟩;refine wp_region_held_drew (S := fun w' => c_ w' gb 0 (.map (some mb)) /\ c_ w' w.heap.size 0 a.1 /\ c_ w' w.heap.size 1 a.2 /\ MapIs w' mb E) (by kernel_rfl) hS3 (fun hHeld => ?_);refine tkS 0 ?_;refine tkS 1 ?_;refine tkS 2 ?_;refine tkS 3 ?_;refine tkS 4 ?_;refine tkH 5 ?_ ?_ ?_;rotate_left
 . intro w hSw; (try dsimp only at hSw); obtain ⟨s0, s1, s2, s3⟩ := hSw; have hl := HL.out _ s3; go_simp; first | done | with_reducible rfl
 try simp only [Act.put, nm]
 refine tkN 6 ?_;refine tkN 7 ?_;refine tkN 8 ?_;refine rdH 9 (fun K hK => ?_);go_simp;obtain ⟨wD, hwD⟩ := e_ ((w3.alloc (.cells zC 51)).drew);have hxD : Xt w3 wD := by rw [<- hwD]; exact ((Xt.refl w3).alloc _).drew
 have hrD : wD.heap[w3.heap.size]? = some (.cells zC 51 (0, 0)) := (by rw [<- hwD]; exact (a_ w3 _).1);have HPD := h_ (HP3.out.step hxD);rw [hwD];refine ko hK ⟨HPD.out.cell, HPD.out.ad.1, HPD.out.ad.2, HPD.out.map⟩ fun hHeld2 => ?_;clear hK K;refine rdH 10 (fun K hK => ?_);rw [if_pos (by rfl)]
 obtain ⟨w4, hw4⟩ := e_ (wD.setRow w3.heap.size (jEC X xa X.t.args.length X.t.args.length).cells);have hx4 : Xt w3 w4 := (by rw [<- hw4]; exact hxD.grownB (jGX _ _ _) (fun m hm => by cases hm; exact Nat.le_refl _));refine wp_store_row 51 _ _ rfl w3.heap.size (jEC X xa X.t.args.length X.t.args.length).cells rfl rfl 51 _ hrD (by kernel_rfl) rfl (by simp [Value.oneCell', Value.cells]) ?_;rw [hw4];have HP4 := h_ (HP3.out.step hx4);refine hK.out _ _ ⟨HP4.out.cell, HP4.out.ad.1, HP4.out.ad.2, HP4.out.map⟩ (fun hHeld3 => ?_);clear hK K;try simp only [Act.put, List.getElem_toArray, List.getElem_cons_zero, List.getElem_cons_succ]
 refine tkN 11 ?_;refine z_ (by kernel_rfl) ?_ _;have hc4 := HP4.out.cell;have hlen : ∀ ty, (Builtin.len_ #[100] ty #[.map (some mb)]).run Tryz.prog w4 = .ok (.int .i64 M.length) w4 := fun ty => by rw [<- HLM.out]; exact HP4.out.map.len Tryz.underlying100
 have hge : (4096 : Int) <= (M.length : Int) := (by have := HLE.out; omega);go_wp2_with fail;go_ret;exact ⟨rfl, HP4.out.xt⟩
theorem jX1 (c : ContT) (x : Option Addr) : ceV (jNS c, x) = ysf c x := by
 show jEC (jNS c) x (copyT c.t).args.length (copyT c.t).args.length = _
 rw [copyT_len]
theorem yCB {w : World} {b : Nat} {cs : List Value} {T : TypeId} {fz : Nat × Nat} (h : w.heap[b]? = some (.cells cs.toArray T fz)) : w.rangeAt b 0 cs := fun j v hv => by
 simp [World.cell?, h, hv]
theorem jIB (n : Nat) (gb mb : Nat) (M : GM) (a : Ad) (c : ContT) (ca : Option Addr) (cap : Nat) (w : World) (h : GridIs w gb mb M) (hok : c.ok) (hT : Tabs w) (hsm : yQE c.t) (hin : ArgsIn w n (.slice ca c.t.args.length cap) c.t.args) (hb : yQy c = true) (hb2 : y8L a.1 a.2 = true) (hk : (c.kind == 0) = false) (his : (lkM a M).isSome = true) : Calls Tryz.prog 25 #[v_ gb, .agg #[a.1, a.2], jEC c ca c.t.args.length cap] w fun e w' => ∃ x, e = .returned (.int .i64 0) /\ GridIs w' gb mb (setM a (jNS c, x) M) /\ w.grownBy w' (some mb) := by
 have H := h_ h;obtain ⟨E, he, w1, hw1, hP1⟩ := yqW h a c ca cap;have HE := h_ he;have HP1 := h_ hP1;have HLM : Hid (E.length = M.length) := h_ ((H.out.xt hP1.xt).len hP1.map he);have HIN := h_ hin;have HSM := h_ hsm;have HV := h_ (yMx n c ca cap w1 hok (hT.xt hP1.xt) (hin.xt hP1.xt));clear h he hP1 hin hsm hok hT;have HIS : Hid ((lk a E).isSome = true) := (by have h0 := HE.out a; rw [h0, Option.isSome_map]; exact his);obtain ⟨⟨X, xa⟩, hX⟩ : ∃ x, (lkM a M).getD (zeroC, none) = x := ⟨_, rfl⟩
 have HX : Hid ((lk a E).getD (jEC zeroC none 0 0) = jEC X xa X.t.args.length X.t.args.length) := (by rw [HE.out]; revert hX; cases lkM a M <;> (intro hX; cases hX; rfl));have HLS : Hid (∀ x, (setM a (jNS c, x) M).length <= 4096) := h_ (fun x => by rw [zzR H.out.sorted his]; exact H.out.many);clear his hX;have HB := h_ hb;have HB2 := h_ hb2;clear hb hb2;go_enter Tryz.func25, Tryz.ntmps25;go_wp2_with (first
  | (refine HV.out.mono ?_; rintro e w2 ⟨rfl, hx2⟩; rw [HB.out]; have HP2 := h_ (HP1.out.step hx2); have hc2 := HP2.out.cell; obtain ⟨d0, d1⟩ := HP2.out.ad;  clear hx2)
  | (refine (zzc a.1 a.2 w2).mono ?_; rintro e w3 ⟨rfl, hg3⟩; rw [HB2.out]; have HP3 := h_ (HP2.out.step hg3.xt); have hc3 := HP3.out.cell; obtain ⟨p0, p1⟩ := HP3.out.ad; have k3 := HP3.out.kind; clear hg3)
  | (refine BigFrame.wpList_want (by rfl) (fun K hK => wp_load_row 51 _ rfl (w.heap.size + 1) rfl 51 _ (0, 0) _ HP1.out.con Tryz.underlying51 rfl (by kernel_rfl) (hK _ _ ?_)); clear hK K))
 have HL : Hid (∀ w', MapIs w' mb E -> (Instr.lookup 100 (.map (some mb)) (.agg #[a.1, a.2]) true).run Tryz.prog w' = .ok (.tuple #[jEC X xa X.t.args.length X.t.args.length, .bool true]) w') := fun w' hm => by
  have := hm.lookup_ok (P := Tryz.prog) (t := 100) (k := 24) (e := 51) z2M Tryz.underlying100 jjQ a;rw [HX.out, HIS.out] at this;exact this
 have hS3 : w3.drew.cell? ⟨gb, 0, none⟩ = some (.map (some mb)) /\ w3.drew.cell? ⟨w.heap.size, 0, none⟩ = some (.int .i64 a.1) /\ w3.drew.cell? ⟨w.heap.size, 1, none⟩ = some (.int .i64 a.2) /\ MapIs w3.drew mb E := ⟨hc3, p0, p1, HP3.out.map⟩;refine wp_region_held_drew (S := fun w' => c_ w' gb 0 (.map (some mb)) /\ c_ w' w.heap.size 0 a.1 /\ c_ w' w.heap.size 1 a.2 /\ MapIs w' mb E) (by kernel_rfl) hS3 (fun hHeld => ?_);refine tkS 0 ?_;refine tkS 1 ?_;refine tkS 2 ?_;refine tkS 3 ?_;refine tkS 4 ?_;refine tkH 5 ?_ ?_ ?_;rotate_left
 . intro w hSw; (try dsimp only at hSw); obtain ⟨s0, s1, s2, s3⟩ := hSw; have hl := HL.out _ s3; go_simp; first | done | with_reducible rfl
 try simp only [Act.put, nm]
 refine tkN 6 ?_;refine tkN 7 ?_;refine tkN 8 ?_;refine rdH 9 (fun K hK => ?_);go_simp;obtain ⟨wD, hwD⟩ := e_ ((w3.alloc (.cells zC 51)).drew);have hxD : Xt w3 wD := by rw [<- hwD]; exact ((Xt.refl w3).alloc _).drew
 have hrD : wD.heap[w3.heap.size]? = some (.cells zC 51 (0, 0)) := (by rw [<- hwD]; exact (a_ w3 _).1);have HPD := h_ (HP3.out.step hxD);rw [hwD];refine ko hK ⟨HPD.out.cell, HPD.out.ad.1, HPD.out.ad.2, HPD.out.map⟩ fun hHeld2 => ?_;clear hK K;refine rdH 10 (fun K hK => ?_);rw [if_pos (by rfl)]
 obtain ⟨w4, hw4⟩ := e_ (wD.setRow w3.heap.size (jEC X xa X.t.args.length X.t.args.length).cells);have hx4 : Xt w3 w4 := (by rw [<- hw4]; exact hxD.grownB (jGX _ _ _) (fun m hm => by cases hm; exact Nat.le_refl _));refine wp_store_row 51 _ _ rfl w3.heap.size (jEC X xa X.t.args.length X.t.args.length).cells rfl rfl 51 _ hrD (by kernel_rfl) rfl (by simp [Value.oneCell', Value.cells]) ?_;rw [hw4];have HP4 := h_ (HP3.out.step hx4);refine hK.out _ _ ⟨HP4.out.cell, HP4.out.ad.1, HP4.out.ad.2, HP4.out.map⟩ (fun hHeld3 => ?_);clear hK K;try simp only [Act.put, List.getElem_toArray, List.getElem_cons_zero, List.getElem_cons_succ]
 refine tkN 11 ?_;refine z_ (by kernel_rfl) ?_ _;have hc4 := HP4.out.cell;have hlen : ∀ ty, (Builtin.len_ #[100] ty #[.map (some mb)]).run Tryz.prog w4 = .ok (.int .i64 M.length) w4 := fun ty => by rw [<- HLM.out]; exact HP4.out.map.len Tryz.underlying100
 go_wp2_with fail
 have hS4 : w4.drew.cell? ⟨gb, 0, none⟩ = some (.map (some mb)) /\ w4.drew.cell? ⟨w.heap.size, 0, none⟩ = some (.int .i64 a.1) /\ w4.drew.cell? ⟨w.heap.size, 1, none⟩ = some (.int .i64 a.2) /\ w4.drew.rangeAt (w.heap.size + 1) 0 [.int .i64 c.kind, .int .i64 c.v.kind, .float .f64 c.v.x, .string c.v.s, .bool c.v.b, .int .i64 c.v.f, .int .i64 c.t.kind, .int .i64 c.t.op, .float .f64 c.t.x, .string c.t.s, .bool c.t.b, .int .i64 c.t.f, .int .i64 c.t.ref.a.1, .int .i64 c.t.ref.a.2, .bool c.t.ref.cf, .bool c.t.ref.rf, .int .i64 c.t.to.a.1, .int .i64 c.t.to.a.2, .bool c.t.to.cf, .bool c.t.to.rf, .slice ca c.t.args.length cap] := ⟨HP4.out.cell, HP4.out.ad.1, HP4.out.ad.2, yCB HP4.out.con⟩
 have HGC := h_ (yN8 n c ca cap w4.drew HSM.out (HIN.out.xt HP4.out.xt.drew))
 refine wp_region_held_drew (S := fun w' => c_ w' gb 0 (.map (some mb)) /\ c_ w' w.heap.size 0 a.1 /\ c_ w' w.heap.size 1 a.2 /\ w'.rangeAt (w.heap.size + 1) 0 [.int .i64 c.kind, .int .i64 c.v.kind, .float .f64 c.v.x, .string c.v.s, .bool c.v.b, .int .i64 c.v.f, .int .i64 c.t.kind, .int .i64 c.t.op, .float .f64 c.t.x, .string c.t.s, .bool c.t.b, .int .i64 c.t.f, .int .i64 c.t.ref.a.1, .int .i64 c.t.ref.a.2, .bool c.t.ref.cf, .bool c.t.ref.rf, .int .i64 c.t.to.a.1, .int .i64 c.t.to.a.2, .bool c.t.to.cf, .bool c.t.to.rf, .slice ca c.t.args.length cap]) (by kernel_rfl) hS4 (fun hHeld => ?_)
 refine tk (fun _ h => And.intro h.1 (And.intro h.2.1 h.2.2.1)) 0 ?_;refine tk (fun _ h => And.intro h.1 (And.intro h.2.1 h.2.2.1)) 1 ?_;refine tk (fun _ h => And.intro h.1 (And.intro h.2.1 h.2.2.1)) 2 ?_;refine tk (fun _ h => And.intro h.1 (And.intro h.2.1 h.2.2.1)) 3 ?_;refine tk (fun _ h => And.intro h.1 (And.intro h.2.1 h.2.2.1)) 4 ?_
 refine wpAnyH_take (i := 5) (oi := _) (v := .agg (rQ c (.slice ca c.t.args.length cap))) rfl (by kernel_rfl) (by kernel_rfl) (by kernel_rfl) (fun _ _ _ h => h) (yieldsIf_load_mid (by rfl) 51 _ rfl (w.heap.size + 1) 0 rfl [.int .i64 c.kind, .int .i64 c.v.kind, .float .f64 c.v.x, .string c.v.s, .bool c.v.b, .int .i64 c.v.f, .int .i64 c.t.kind, .int .i64 c.t.op, .float .f64 c.t.x, .string c.t.s, .bool c.t.b, .int .i64 c.t.f, .int .i64 c.t.ref.a.1, .int .i64 c.t.ref.a.2, .bool c.t.ref.cf, .bool c.t.ref.rf, .int .i64 c.t.to.a.1, .int .i64 c.t.to.a.2, .bool c.t.to.cf, .bool c.t.to.rf, .slice ca c.t.args.length cap] _ (fun w' hw' => hw'.2.2.2) Tryz.underlying51 rfl (by kernel_rfl)) (by assumption) ?_
 try simp only [Act.put, nm]
 refine rdH 6 (fun K hK => ?_);go_simp;refine HGC.out.mono ?_;rintro e w5 ⟨a', rfl, hA, hx5⟩;have HP5 := h_ (HP4.out.step ((Xt.refl w4).drew.trans hx5));refine ko hK ⟨HP5.out.cell, HP5.out.ad.1, HP5.out.ad.2, yCB HP5.out.con⟩ fun hHeld2 => ?_;clear hK K;obtain ⟨w6, hupd, hm6, hg6, hd6, hs6⟩ := HP5.out.map.update (P := Tryz.prog) (t := 100) (k := 24) (e := 51) z2M Tryz.underlying100 a (ysf c a');have hupd' : (Instr.mapUpdate 100 (.map (some mb)) (.agg #[a.1, a.2]) (ysf c a')).run Tryz.prog w5 = .ok () w6 := hupd;have HC6 : Hid (CellsIn w5 w6) := CellsIn.of_grown HP5.out.map hg6;have HM6 := h_ hm6;have HG6 := h_ hg6;have HA := h_ hA
 clear hm6 hg6 hA hupd;refine rdH 7 (fun K hK => ?_);go_simp;refine ko hK ⟨HC6.out _ _ _ HP5.out.cell, HC6.out _ _ _ HP5.out.ad.1, HC6.out _ _ _ HP5.out.ad.2, fun j v hv => HC6.out _ _ _ (yCB HP5.out.con j v hv)⟩ fun hHeld3 => ?_;clear hK K;refine z_ (by kernel_rfl) ?_ _;go_wp2_with fail;go_ret;refine ⟨a', rfl, H.out.put (HP5.out.xt.cellsIn.trans HC6.out) HE.out (x := (jNS c, a')) (by rw [jX1]) HM6.out ⟨jXA _ HSM.out, n, ?_⟩ (HLS.out a'), ?_⟩
 . have h0 := HA.out.args.kept HC6.out
   show ArgsIn w6 n (.slice a' (copyT c.t).args.length (copyT c.t).args.length) (copyT c.t).args
   rw [copyT_len, zH4]; exact h0
 . have hx := HP5.out.xt;exact ⟨HG6.out.os.trans hx.os, HG6.out.tape.trans hx.tape, HG6.out.output.trans hx.output, Nat.le_trans hx.size HG6.out.size, fun k hk hne => (HG6.out.block k (Nat.lt_of_lt_of_le hk hx.size) hne).trans (hx.block k hk)⟩
theorem yyH (n : Nat) (gb mb : Nat) (M : GM) (a : Ad) (c : ContT) (ca : Option Addr) (cap : Nat) (w : World) (h : GridIs w gb mb M) (hok : c.ok) (hT : Tabs w) (hsm : yQE c.t) (hin : ArgsIn w n (.slice ca c.t.args.length cap) c.t.args) (hb : yQy c = true) (hb2 : y8L a.1 a.2 = true) (hk : (c.kind == 0) = false) (his : (lkM a M).isSome = false) (hlt : M.length < 4096) : Calls Tryz.prog 25 #[v_ gb, .agg #[a.1, a.2], jEC c ca c.t.args.length cap] w fun e w' => ∃ x, e = .returned (.int .i64 0) /\ GridIs w' gb mb (setM a (jNS c, x) M) /\ w.grownBy w' (some mb) := by
 have H := h_ h;obtain ⟨E, he, w1, hw1, hP1⟩ := yqW h a c ca cap;have HE := h_ he;have HP1 := h_ hP1;have HLM : Hid (E.length = M.length) := h_ ((H.out.xt hP1.xt).len hP1.map he);have HIN := h_ hin;have HSM := h_ hsm;have HV := h_ (yMx n c ca cap w1 hok (hT.xt hP1.xt) (hin.xt hP1.xt));clear h he hP1 hin hsm hok hT;have HIS : Hid ((lk a E).isSome = false) := (by have h0 := HE.out a; rw [h0, Option.isSome_map]; exact his);obtain ⟨⟨X, xa⟩, hX⟩ : ∃ x, (lkM a M).getD (zeroC, none) = x := ⟨_, rfl⟩
 have HX : Hid ((lk a E).getD (jEC zeroC none 0 0) = jEC X xa X.t.args.length X.t.args.length) := (by rw [HE.out]; revert hX; cases lkM a M <;> (intro hX; cases hX; rfl));have HLS : Hid (∀ x, (setM a (jNS c, x) M).length <= 4096) := h_ (fun x => Nat.le_trans yCC hlt);have HLT := h_ hlt;clear hlt;clear his hX;have HB := h_ hb;have HB2 := h_ hb2;clear hb hb2;go_enter Tryz.func25, Tryz.ntmps25;go_wp2_with (first
  | (refine HV.out.mono ?_; rintro e w2 ⟨rfl, hx2⟩; rw [HB.out]; have HP2 := h_ (HP1.out.step hx2); have hc2 := HP2.out.cell; obtain ⟨d0, d1⟩ := HP2.out.ad;  clear hx2)
  | (refine (zzc a.1 a.2 w2).mono ?_; rintro e w3 ⟨rfl, hg3⟩; rw [HB2.out]; have HP3 := h_ (HP2.out.step hg3.xt); have hc3 := HP3.out.cell; obtain ⟨p0, p1⟩ := HP3.out.ad; have k3 := HP3.out.kind; clear hg3)
  | (refine BigFrame.wpList_want (by rfl) (fun K hK => wp_load_row 51 _ rfl (w.heap.size + 1) rfl 51 _ (0, 0) _ HP1.out.con Tryz.underlying51 rfl (by kernel_rfl) (hK _ _ ?_)); clear hK K))
 have HL : Hid (∀ w', MapIs w' mb E -> (Instr.lookup 100 (.map (some mb)) (.agg #[a.1, a.2]) true).run Tryz.prog w' = .ok (.tuple #[jEC X xa X.t.args.length X.t.args.length, .bool false]) w') := fun w' hm => by
  have := hm.lookup_ok (P := Tryz.prog) (t := 100) (k := 24) (e := 51) z2M Tryz.underlying100 jjQ a;rw [HX.out, HIS.out] at this;exact this
 have hS3 : w3.drew.cell? ⟨gb, 0, none⟩ = some (.map (some mb)) /\ w3.drew.cell? ⟨w.heap.size, 0, none⟩ = some (.int .i64 a.1) /\ w3.drew.cell? ⟨w.heap.size, 1, none⟩ = some (.int .i64 a.2) /\ MapIs w3.drew mb E := ⟨hc3, p0, p1, HP3.out.map⟩;refine wp_region_held_drew (S := fun w' => c_ w' gb 0 (.map (some mb)) /\ c_ w' w.heap.size 0 a.1 /\ c_ w' w.heap.size 1 a.2 /\ MapIs w' mb E) (by kernel_rfl) hS3 (fun hHeld => ?_);refine tkS 0 ?_;refine tkS 1 ?_;refine tkS 2 ?_;refine tkS 3 ?_;refine tkS 4 ?_;refine tkH 5 ?_ ?_ ?_;rotate_left
 . intro w hSw; (try dsimp only at hSw); obtain ⟨s0, s1, s2, s3⟩ := hSw; have hl := HL.out _ s3; go_simp; first | done | with_reducible rfl
 try simp only [Act.put, nm]
 refine tkN 6 ?_;refine tkN 7 ?_;refine tkN 8 ?_;refine rdH 9 (fun K hK => ?_);go_simp;obtain ⟨wD, hwD⟩ := e_ ((w3.alloc (.cells zC 51)).drew);have hxD : Xt w3 wD := by rw [<- hwD]; exact ((Xt.refl w3).alloc _).drew
 have hrD : wD.heap[w3.heap.size]? = some (.cells zC 51 (0, 0)) := (by rw [<- hwD]; exact (a_ w3 _).1);have HPD := h_ (HP3.out.step hxD);rw [hwD];refine ko hK ⟨HPD.out.cell, HPD.out.ad.1, HPD.out.ad.2, HPD.out.map⟩ fun hHeld2 => ?_;clear hK K;refine rdH 10 (fun K hK => ?_);rw [if_pos (by rfl)]
 obtain ⟨w4, hw4⟩ := e_ (wD.setRow w3.heap.size (jEC X xa X.t.args.length X.t.args.length).cells);have hx4 : Xt w3 w4 := (by rw [<- hw4]; exact hxD.grownB (jGX _ _ _) (fun m hm => by cases hm; exact Nat.le_refl _));refine wp_store_row 51 _ _ rfl w3.heap.size (jEC X xa X.t.args.length X.t.args.length).cells rfl rfl 51 _ hrD (by kernel_rfl) rfl (by simp [Value.oneCell', Value.cells]) ?_;rw [hw4];have HP4 := h_ (HP3.out.step hx4);refine hK.out _ _ ⟨HP4.out.cell, HP4.out.ad.1, HP4.out.ad.2, HP4.out.map⟩ (fun hHeld3 => ?_);clear hK K;try simp only [Act.put, List.getElem_toArray, List.getElem_cons_zero, List.getElem_cons_succ]
 refine tkN 11 ?_;refine z_ (by kernel_rfl) ?_ _;have hc4 := HP4.out.cell;have hlen : ∀ ty, (Builtin.len_ #[100] ty #[.map (some mb)]).run Tryz.prog w4 = .ok (.int .i64 M.length) w4 := fun ty => by rw [<- HLM.out]; exact HP4.out.map.len Tryz.underlying100
 have hge : ¬ (4096 : Int) <= (M.length : Int) := (by have := HLT.out; omega);go_wp2_with fail
 have hS4 : w4.drew.cell? ⟨gb, 0, none⟩ = some (.map (some mb)) /\ w4.drew.cell? ⟨w.heap.size, 0, none⟩ = some (.int .i64 a.1) /\ w4.drew.cell? ⟨w.heap.size, 1, none⟩ = some (.int .i64 a.2) /\ w4.drew.rangeAt (w.heap.size + 1) 0 [.int .i64 c.kind, .int .i64 c.v.kind, .float .f64 c.v.x, .string c.v.s, .bool c.v.b, .int .i64 c.v.f, .int .i64 c.t.kind, .int .i64 c.t.op, .float .f64 c.t.x, .string c.t.s, .bool c.t.b, .int .i64 c.t.f, .int .i64 c.t.ref.a.1, .int .i64 c.t.ref.a.2, .bool c.t.ref.cf, .bool c.t.ref.rf, .int .i64 c.t.to.a.1, .int .i64 c.t.to.a.2, .bool c.t.to.cf, .bool c.t.to.rf, .slice ca c.t.args.length cap] := ⟨HP4.out.cell, HP4.out.ad.1, HP4.out.ad.2, yCB HP4.out.con⟩
 have HGC := h_ (yN8 n c ca cap w4.drew HSM.out (HIN.out.xt HP4.out.xt.drew))
 refine wp_region_held_drew (S := fun w' => c_ w' gb 0 (.map (some mb)) /\ c_ w' w.heap.size 0 a.1 /\ c_ w' w.heap.size 1 a.2 /\ w'.rangeAt (w.heap.size + 1) 0 [.int .i64 c.kind, .int .i64 c.v.kind, .float .f64 c.v.x, .string c.v.s, .bool c.v.b, .int .i64 c.v.f, .int .i64 c.t.kind, .int .i64 c.t.op, .float .f64 c.t.x, .string c.t.s, .bool c.t.b, .int .i64 c.t.f, .int .i64 c.t.ref.a.1, .int .i64 c.t.ref.a.2, .bool c.t.ref.cf, .bool c.t.ref.rf, .int .i64 c.t.to.a.1, .int .i64 c.t.to.a.2, .bool c.t.to.cf, .bool c.t.to.rf, .slice ca c.t.args.length cap]) (by kernel_rfl) hS4 (fun hHeld => ?_)
 refine tk (fun _ h => And.intro h.1 (And.intro h.2.1 h.2.2.1)) 0 ?_;refine tk (fun _ h => And.intro h.1 (And.intro h.2.1 h.2.2.1)) 1 ?_;refine tk (fun _ h => And.intro h.1 (And.intro h.2.1 h.2.2.1)) 2 ?_;refine tk (fun _ h => And.intro h.1 (And.intro h.2.1 h.2.2.1)) 3 ?_;refine tk (fun _ h => And.intro h.1 (And.intro h.2.1 h.2.2.1)) 4 ?_
 refine wpAnyH_take (i := 5) (oi := _) (v := .agg (rQ c (.slice ca c.t.args.length cap))) rfl (by kernel_rfl) (by kernel_rfl) (by kernel_rfl) (fun _ _ _ h => h) (yieldsIf_load_mid (by rfl) 51 _ rfl (w.heap.size + 1) 0 rfl [.int .i64 c.kind, .int .i64 c.v.kind, .float .f64 c.v.x, .string c.v.s, .bool c.v.b, .int .i64 c.v.f, .int .i64 c.t.kind, .int .i64 c.t.op, .float .f64 c.t.x, .string c.t.s, .bool c.t.b, .int .i64 c.t.f, .int .i64 c.t.ref.a.1, .int .i64 c.t.ref.a.2, .bool c.t.ref.cf, .bool c.t.ref.rf, .int .i64 c.t.to.a.1, .int .i64 c.t.to.a.2, .bool c.t.to.cf, .bool c.t.to.rf, .slice ca c.t.args.length cap] _ (fun w' hw' => hw'.2.2.2) Tryz.underlying51 rfl (by kernel_rfl)) (by assumption) ?_
 try simp only [Act.put, nm]
 refine rdH 6 (fun K hK => ?_);go_simp;refine HGC.out.mono ?_;rintro e w5 ⟨a', rfl, hA, hx5⟩;have HP5 := h_ (HP4.out.step ((Xt.refl w4).drew.trans hx5));refine ko hK ⟨HP5.out.cell, HP5.out.ad.1, HP5.out.ad.2, yCB HP5.out.con⟩ fun hHeld2 => ?_;clear hK K;obtain ⟨w6, hupd, hm6, hg6, hd6, hs6⟩ := HP5.out.map.update (P := Tryz.prog) (t := 100) (k := 24) (e := 51) z2M Tryz.underlying100 a (ysf c a');have hupd' : (Instr.mapUpdate 100 (.map (some mb)) (.agg #[a.1, a.2]) (ysf c a')).run Tryz.prog w5 = .ok () w6 := hupd;have HC6 : Hid (CellsIn w5 w6) := CellsIn.of_grown HP5.out.map hg6;have HM6 := h_ hm6;have HG6 := h_ hg6;have HA := h_ hA
 clear hm6 hg6 hA hupd;refine rdH 7 (fun K hK => ?_);go_simp;refine ko hK ⟨HC6.out _ _ _ HP5.out.cell, HC6.out _ _ _ HP5.out.ad.1, HC6.out _ _ _ HP5.out.ad.2, fun j v hv => HC6.out _ _ _ (yCB HP5.out.con j v hv)⟩ fun hHeld3 => ?_;clear hK K;refine z_ (by kernel_rfl) ?_ _;go_wp2_with fail;go_ret;refine ⟨a', rfl, H.out.put (HP5.out.xt.cellsIn.trans HC6.out) HE.out (x := (jNS c, a')) (by rw [jX1]) HM6.out ⟨jXA _ HSM.out, n, ?_⟩ (HLS.out a'), ?_⟩
 . have h0 := HA.out.args.kept HC6.out
   show ArgsIn w6 n (.slice a' (copyT c.t).args.length (copyT c.t).args.length) (copyT c.t).args
   rw [copyT_len, zH4]; exact h0
 . have hx := HP5.out.xt;exact ⟨HG6.out.os.trans hx.os, HG6.out.tape.trans hx.tape, HG6.out.output.trans hx.output, Nat.le_trans hx.size HG6.out.size, fun k hk hne => (HG6.out.block k (Nat.lt_of_lt_of_le hk hx.size) hne).trans (hx.block k hk)⟩
theorem zbE (n : Nat) (gb mb : Nat) (M : GM) (a : Ad) (c : ContT) (ca : Option Addr) (cap : Nat) (w : World) (h : GridIs w gb mb M) (hok : c.ok) (hT : Tabs w) (hsm : yQE c.t) (hin : ArgsIn w n (.slice ca c.t.args.length cap) c.t.args) : Calls Tryz.prog 25 #[v_ gb, .agg #[a.1, a.2], jEC c ca c.t.args.length cap] w (PutR w gb mb M a c) := by
 by_cases hb : yQy c = true
 . by_cases hb2 : y8L a.1 a.2 = true
   . by_cases hk : (c.kind == 0) = true
     . refine (ydM n gb mb M a c ca cap w h hok hT hsm hin hb hb2 hk).mono ?_;rintro e w' ⟨rfl, q1, q2⟩;exact ⟨none, by simp [zWI, hb, hb2, hk], by simpa [j4E, hb, hb2, hk] using q1, q2⟩
     . have hk := Bool.eq_false_iff.2 hk;by_cases his : (lkM a M).isSome = true
       . refine (jIB n gb mb M a c ca cap w h hok hT hsm hin hb hb2 hk his).mono ?_;rintro e w' ⟨x, rfl, q1, q2⟩;exact ⟨x, by simp [zWI, hb, hb2, hk, j6H, his], by simpa [j4E, hb, hb2, hk, j6H, his] using q1, q2⟩
       . have his := Bool.eq_false_iff.2 his;by_cases hlt : M.length < 4096
         . refine (yyH n gb mb M a c ca cap w h hok hT hsm hin hb hb2 hk his hlt).mono ?_;rintro e w' ⟨x, rfl, q1, q2⟩;have h4 : ¬ 4096 <= M.length := (by omega);exact ⟨x, by simp [zWI, hb, hb2, hk, j6H, his, h4], by simpa [j4E, hb, hb2, hk, j6H, his, h4] using q1, q2⟩
         . have h4 : 4096 <= M.length := (by omega);refine (jkZ n gb mb M a c ca cap w h hok hT hsm hin hb hb2 hk his (by simp [j6H, his, h4])).mono ?_;rintro e w' ⟨rfl, q1⟩;exact ⟨none, by simp [zWI, hb, hb2, hk, j6H, his, h4], by simpa [j4E, hb, hb2, hk, j6H, his, h4] using h.xt q1, ⟨q1.os, q1.tape, q1.output, q1.size, fun k hk _ => q1.block k hk⟩⟩
   . have hb2 := Bool.eq_false_iff.2 hb2;refine (gput_ad n gb mb M a c ca cap w h hok hT hsm hin hb hb2).mono ?_;rintro e w' ⟨rfl, q1⟩;exact ⟨none, by simp [zWI, hb, hb2], by simpa [j4E, hb, hb2] using h.xt q1, ⟨q1.os, q1.tape, q1.output, q1.size, fun k hk _ => q1.block k hk⟩⟩
 . have hb := Bool.eq_false_iff.2 hb;refine (j4T n gb mb M a c ca cap w h hok hT hsm hin hb).mono ?_;rintro e w' ⟨rfl, q1⟩;exact ⟨none, by simp [zWI, hb], by simpa [j4E, hb] using h.xt q1, ⟨q1.os, q1.tape, q1.output, q1.size, fun k hk _ => q1.block k hk⟩⟩
end
section
open Go.RowKit Go.Sort Go.Maps Go.Shelf
theorem ztU (b : Nat) (es : Array MapEntry) (clock : Nat) (w : World) (hb : w.heap[b]? = some (.map es clock)) :
    Calls Tryz.prog 72 #[.map (some b)] w fun e w' => e = .returned (.map (some w.heap.size)) /\ w' = w.alloc (.map es clock) := by
 have hq := fun w => run_eql_map_nil_sl (P := Tryz.prog) w 100 _ _ (some b) Tryz.underlying100;go_enter Tryz.func72, Tryz.ntmps72;go_wp2;rw [run_callFunc_extern Tryz.func113 (by kernel_rfl) (by kernel_rfl) (by kernel_rfl) (e := Extern.MapsClone.clone) (by kernel_rfl), run_maps_clone_sl w 100 hb];simp only [Result.andThen];rw [Oper.upon_value];go_wp2;rw [run_typeAssert_map_sl _ 100 _ _ _ _ Tryz.underlying100];simp only [Result.andThen];rw [Oper.upon_value];go_wp2;go_ret;exact ⟨rfl, rfl⟩
section
variable {F : Fence} {n : Nat} {P : Program} (w : World) {ops : Array Oper} {rest : List Oper} {o : Oper} {a : Act} {Q : Exit -> Act -> World -> Prop}
theorem zgV (hg : o.guard = none) (m : Operand) (t k e : TypeId) (hop : o.op = Op.range t m) (ht : P.underlying t = some (.map k e)) (b : Nat) (E : List (Ad × Value)) (hm : a.eval m = .map (some b)) (h : MapIs w b E)
    (hK : ∀ w', IterIs w' w.heap.size b E E none -> Gr w w' -> w'.heap.size = w.heap.size + 1 -> wpListIn F n P ops Q rest (a.put o.dst (v_ w.heap.size)) w') :
    wpListIn F n P ops Q (o :: rest) a w := by
 refine wpListIn_plain hg fun K' hK' => ?_;obtain ⟨w', hrun, r1, r2, r3⟩ := h.range (P := P) ht;unfold Oper.wpIn;refine ⟨?_, ?_⟩
 . simp [Oper.about, hop]
 . rw [Oper.semAt_plain F _ _ (by rw [hop]; intro c hc'; cases hc')];simp [execOp, hop, hm, hrun, Result.andThen];exact hK' _ _ (hK w' r1 r2 r3)
theorem jJb (hg : o.guard = none) (it : Operand) (hop : o.op = Op.next it false) (r b : Nat) (E left : List (Ad × Value)) (cur : Option (Ad × Value)) (hit : a.eval it = v_ r) (h : IterIs w r b E left cur)
    (hDone : left = [] -> wpListIn F n P ops Q rest (a.put o.dst (.tuple #[.bool false])) w)
    (hMore : ∀ (c d : Int) (v : Value) l1 l2 w1, left = l1 ++ ((c, d), v) :: l2 -> IterIs w1 r b E (l1 ++ l2) (some ((c, d), v)) -> w.grownBy w1 (some r) -> w1.heap.size = w.heap.size ->
     (Instr.entry (v_ r)).run P w1 = .ok (.tuple #[.agg #[c, d], v]) w1 -> wpListIn F n P ops Q rest (a.put o.dst (.tuple #[.bool true, .agg #[c, d], v])) w1) :
    wpListIn F n P ops Q (o :: rest) a w := by
 refine wpListIn_plain hg fun K' hK' => ?_;unfold Oper.wpIn;refine ⟨by simp [Oper.about, hop], ?_⟩;rw [Oper.semAt_plain F _ _ (by rw [hop]; intro c hc'; cases hc')];rcases h.next (P := P) o.type with ⟨h0, hrun⟩ | ⟨x, l1, l2, w1, hl, hrun, hI, hgr, hsz⟩
 . simp [execOp, hop, hit, hrun, Result.andThen];exact hK' _ _ (hDone h0)
 . simp [execOp, hop, hit, hrun, Result.andThen];exact hK' _ _ (hMore x.1.1 x.1.2 x.2 l1 l2 w1 hl hI hgr hsz hI.entry)
end
theorem IterIs.walks {w w' : World} {r b : Nat} {E left : List (Ad × Value)} {cur : Option (Ad × Value)} (h : IterIs w r b E left cur) (hk : KeepsWalks w w') : IterIs w' r b E left cur := by
 obtain ⟨es, clock, seen, h1, h2, h3, h4, h5⟩ := h;exact ⟨es, clock, seen, hk.same b _ h1 rfl, h2, h3, hk.same r _ h4 rfl, h5⟩
theorem IterIs.isWalk {w : World} {r b : Nat} {E left : List (Ad × Value)} {cur : Option (Ad × Value)} (h : IterIs w r b E left cur) : ∃ o : Obj, w.heap[r]? = some o /\ o.isWalk = true := by
 obtain ⟨es, clock, seen, h1, h2, h3, h4, h5⟩ := h;exact ⟨_, h4, rfl⟩
theorem Gr.grown {w w' : World} (h : Gr w w') : w.grownBy w' none := by
 obtain ⟨q, os, rfl⟩ := h;exact ⟨rfl, rfl, rfl, by simp [World.drewN], fun k hk _ => heap_grow_old _ _ hk⟩
noncomputable def itLeft (w : World) (b r : Nat) : Nat := match w.heap[b]?, w.heap[r]? with
 | some (.map es _), some (.mapIter _ _ seen _) => (leftOf es seen).size
 | _, _ => 0
theorem IterIs.itLeft {w : World} {r b : Nat} {E left : List (Ad × Value)} {cur : Option (Ad × Value)} (h : IterIs w r b E left cur) : itLeft w b r = left.length := by
 obtain ⟨es, clock, seen, h1, h2, h3, h4, h5, _⟩ := h;simp only [YtdoeejhdenifpaaGreatDoor.itLeft, h1, h4];have := congrArg List.length h5;simpa using this
abbrev adW (x : Ad) : Value := .agg #[x.1, x.2]
theorem yO8 (F : Fence) (n : Nat) (hf : F.fn 152) (hro : F.round = none) (hn : 1 <= n) (l Bm b : Nat) (E : List (Ad × Value)) (J Jx : List Ad -> World -> Prop)
    (hY : ∀ pre x W, J pre W -> pre.length < E.length -> YieldAt F (n - 1) Tryz.prog l #[adW x] W fun e W' => (e = .returned (.bool true) /\ J (pre ++ [x]) W' /\ KeepsWalks W W') \/ (e = .returned (.bool false) /\ Jx (pre ++ [x]) W'))
    (W : World) (hJ : AbidesFrom W.heap.size J) (hm : W.cell? ⟨Bm, 0, none⟩ = some (.map (some b))) (hown : MapIs W b E) (h0 : J [] W) :
    CallsIn F n Tryz.prog 152 #[.func (.yield l) #[] #[], v_ Bm] W fun e W' => (∃ v, e = .returned v) /\ ((∃ ks : List Ad, ks.Perm (E.map (·.1)) /\ J ks W') \/ (∃ pre, True /\ Jx pre W')) := by
 refine callsIn_of_wp Tryz.func152 rfl hf ?_ hro;simp only [Tryz.ntmps152, List.size_toArray, List.length_cons, List.length_nil, Nat.reduceAdd, Nat.reduceSub, Array.replicate_succ, Array.replicate_zero, List.push_toArray, List.append_toArray, List.nil_append, List.cons_append]
 gi_wp2_with (first
  | (gi_at_range; refine zgV _ rfl _ 100 24 51 rfl Tryz.underlying100 b E rfl hown ?_; intro w0 hI0 hg0 hs0)
  | gi_in)
 go_frame
 gi_loopw [3] (fun _ wr => ∃ (left : List (Ad × Value)) (cur : Option (Ad × Value)) (ks : List Ad), IterIs wr W.heap.size b E left cur /\ Hid ((ks ++ left.map (·.1)).Perm (E.map (·.1))) /\ J ks wr /\ wr.heap.size >= W.heap.size)
  (fun _ wr => itLeft wr b W.heap.size)
 case atStart => exact ⟨E, none, [], hI0, by unfold Hid; simp, hJ [] W w0 none h0 hg0.grown (fun r e => by cases e), by omega⟩
 case round =>
  obtain ⟨left, cur, ks, hI, HP, hJs, hsz⟩ := hrel
  gi_wp2_with (first
   | (gi_at_next; refine jJb _ rfl _ rfl _ _ _ _ _ rfl hI ?_ ?_)
   | gi_in)
  . intro hl0;subst hl0
    gi_wp2
    go_end0
    exact ⟨⟨_, rfl⟩, Or.inl ⟨ks, by have := HP.out; simpa using this, hJs⟩⟩
  . intro c d v l1 l2 w1 hl hI1 hg1 hs1 hen;have HL := h_ hl;have hkl : ks.length < E.length := by
     have := HP.out.length_eq;rw [hl] at this; simp at this; omega
    have hJ1 : J ks w1 := hJ ks wr w1 (some W.heap.size) hJs hg1 (fun r e => by cases e; exact ⟨Nat.le_refl _, hI.isWalk⟩);have hJ2 : J ks (w1.alloc (.cells #[c, d] 24)) := hJ ks w1 _ none hJ1 (World.grownBy_alloc w1 _ none) (fun r e => by cases e);obtain ⟨fn, tmps, assign, body, hy, hR⟩ := hY ks (c, d) _ hJ2 hkl;have hI2 : IterIs (w1.alloc (.cells #[c, d] 24)) W.heap.size b E (l1 ++ l2) (some ((c, d), v)) := hI1.walks (KeepsWalks.alloc _ _);clear hl hs1
    (try dsimp only at hy)
    gi_wp2
    refine hR.mono ?_;rintro e W3 (⟨rfl, hJ3, hk3⟩ | ⟨rfl, hJ3⟩);rotate_left
    . gi_wp2
      refine p_ (results_none rfl _ _ _) rfl ?_;exact ⟨⟨_, rfl⟩, Or.inr ⟨_, trivial, hJ3⟩⟩
    gi_wp2
    have hI3 := hI2.walks hk3;have hs3 := hk3.size;go_roundw
    case rel =>
     refine ⟨l1 ++ l2, _, ks ++ [(c, d)], hI3, ?_, hJ3, by have := hg1.size; simp at hs3; omega⟩;refine List.Perm.trans ?_ HP.out;rw [HL.out];simp only [List.map_append, List.map_cons, List.append_assoc, List.singleton_append];exact List.Perm.append_left _ List.perm_middle.symm
    case measure => rw [hI3.itLeft, hI.itLeft, HL.out]; simp
theorem keys_in (F : Fence) (n : Nat) (hf : F.fn 118) (hro : F.round = none) (mb : Option Nat) (w : World) :
    CallsIn F n Tryz.prog 118 #[.map mb] w fun e w' => e = .returned (.func (.func 152) #[] #[v_ w.heap.size]) /\ w' = w.alloc (.cells #[.map mb] 100) := by
 refine callsIn_of_wp Tryz.func118 rfl hf ?_ hro;simp only [Tryz.ntmps118, List.size_toArray, List.length_cons, List.length_nil, Nat.reduceAdd, Nat.reduceSub, Array.replicate_succ, Array.replicate_zero, List.push_toArray, List.append_toArray, List.nil_append, List.cons_append]
 gi_wp2
 go_ret;exact ⟨rfl, rfl⟩
theorem ynl (F : Fence) (n : Nat) (hf : F.fn 152) (hro : F.round = none) (hn : 1 <= n) (Bm b : Nat) (E : List (Ad × Value)) (w : World) (hBm : Bm < w.heap.size) (hm : w.cell? ⟨Bm, 0, none⟩ = some (.map (some b))) (hown : MapIs w b E) :
    SeqStopsK F n Tryz.prog 152 #[v_ Bm] (fun x : Ad => #[adW x]) KeepsWalks (fun ks => ks.Perm (E.map (·.1))) (fun _ => True) E.length w := fun l J Jx W hW hJ _ hY h0 =>
 yO8 F n hf hro hn l Bm b E J Jx hY W hJ ((hW.cell (p := ⟨Bm, 0, none⟩) hBm).trans hm) (hown.of_heap (hW.block b hown.lt)) h0
end
end Go.Proofs.YtdoeejhdenifpaaGreatDoor
