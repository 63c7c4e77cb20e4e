import Derived.Test.YtdoeejhdenifpaaGreatDoorB22
import Derived.Test.YtdoeejhdenifpaaGreatDoorB23
import Derived.RangeFuncWrites
import Derived.StillTailTactics
import Derived.Deep.CutBlock
import Derived.Sort.CutIn
import Derived.RangeFuncNested
set_option maxRecDepth 100000
set_option maxHeartbeats 16000000
namespace Go.Proofs.YtdoeejhdenifpaaGreatDoor
section
open Go.RowKit Go.Sort
theorem ySs (cG : Ad -> Ad × Bool) (aG : ArT -> ArT × Bool) (t : NodeT) : yip cG aG t = lostT \/ ∃ r q, yip cG aG t = .mk t.kind t.op t.x t.s t.b t.f r q t.args := by
 obtain ⟨k, o, x, s, b, f, r, q, l⟩ := t;rw [yip];by_cases h5 : k = 5
 . rw [if_pos h5];by_cases h : (cG r.a).2 = true
   . rw [if_pos h]; exact Or.inr ⟨_, _, rfl⟩
   . rw [if_neg h]; exact Or.inl rfl
 . rw [if_neg h5];by_cases h6 : k = 6
   . rw [if_pos h6];by_cases h : (aG (arOf r q)).2 = true
     . rw [if_pos h]; exact Or.inr ⟨_, _, rfl⟩
     . rw [if_neg h]; exact Or.inl rfl
   . rw [if_neg h6]; exact Or.inr ⟨_, _, rfl⟩
theorem zxk : lostT.ok := by simp [lostT, NodeT.ok, okL, ByteArray.size]
theorem zdC : yQE lostT := by simp [lostT, yQE, joP]
mutual
theorem jz5 (cG : Ad -> Ad × Bool) (aG : ArT -> ArT × Bool) : ∀ t : NodeT, t.ok -> (jNY cG aG t).ok
 | .mk k o x s b f r q l, h => by
  rw [jNY];rcases ySs cG aG (.mk k o x s b f r q (jWC cG aG l)) with e | ⟨r', q', e⟩
  . rw [e]; exact zxk
  . rw [e]; exact ⟨h.1, h.2.1, jYh cG aG l h.2.2⟩
theorem jYh (cG : Ad -> Ad × Bool) (aG : ArT -> ArT × Bool) : ∀ l : List NodeT, okL l -> okL (jWC cG aG l)
 | [], _ => trivial
 | t :: l, h => ⟨jz5 cG aG t h.1, jYh cG aG l h.2⟩
end
theorem yQX (cG : Ad -> Ad × Bool) (aG : ArT -> ArT × Bool) (l : List NodeT) : (jWC cG aG l).length = l.length := by rw [y35]; simp
mutual
theorem zQd (cG : Ad -> Ad × Bool) (aG : ArT -> ArT × Bool) : ∀ t : NodeT, yQE t -> yQE (jNY cG aG t)
 | .mk k o x s b f r q l, h => by
  rw [jNY];rcases ySs cG aG (.mk k o x s b f r q (jWC cG aG l)) with e | ⟨r', q', e⟩
  . rw [e]; exact zdC
  . rw [e];have h1 := zB1 h;exact ⟨by rw [NodeT.args, yQX]; exact h1.1, zjQ cG aG l h1.2⟩
theorem zjQ (cG : Ad -> Ad × Bool) (aG : ArT -> ArT × Bool) : ∀ l : List NodeT, joP l -> joP (jWC cG aG l)
 | [], _ => trivial
 | t :: l, h => ⟨zQd cG aG t h.1, zjQ cG aG l h.2⟩
end
theorem yFU {cG : Ad -> Ad × Bool} {aG : ArT -> ArT × Bool} {c : ContT} (h : c.ok) : (yFo cG aG c).ok := by
 unfold yFo;split
 . exact ⟨h.1, jz5 cG aG _ (zKI _ h.2.1), h.2.2⟩
 . exact h
theorem jCt {cG : Ad -> Ad × Bool} {aG : ArT -> ArT × Bool} {c : ContT} (h : yQE c.t) : yQE (yFo cG aG c).t := by
 unfold yFo;split
 . exact zQd cG aG _ (jXA _ h)
 . exact h
theorem yO7 {a b : Int} (h : y8L a b = true) : 1 <= a /\ a <= 256 /\ 1 <= b /\ b <= 4096 := by
 unfold y8L at h;simp at h;omega
mutual
theorem z8c : ∀ (t : NodeT) (ins : Bool), yG3 t ins = 0 -> okAs ArT.ok t
 | .mk k o x s b f r q l, ins, h => by
  rw [yG3] at h;by_cases hm : zGb (.mk k o x s b f r q l) = true
  . rw [if_pos hm] at h;by_cases h5 : k = 5
    . subst h5;refine ⟨fun e => by omega, ?_⟩;rw [if_pos (by rfl)] at h;split at h
      . exact zD2 l _ h
      . omega
    . rw [if_neg (by simpa using h5)] at h;by_cases h6 : k = 6
      . subst h6;rw [if_pos (by rfl)] at h;split at h
        . rename_i hv;simp only [Bool.and_eq_true, decide_eq_true_eq] at hv;have v1 := yO7 hv.1.1.1;have v2 := yO7 hv.1.1.2;refine ⟨fun _ => ?_, ?_⟩
          . unfold ArT.ok arOf; simp only; omega
          . split at h
            . exact zD2 l _ h
            . omega
        . omega
      . rw [if_neg (by simpa using h6)] at h;refine ⟨fun e => absurd e h6, ?_⟩;split at h
        . split at h
          . split at h
            . omega
            . split at h
              . omega
              . exact zD2 l _ h
          . omega
        . exact zD2 l _ h
  . rw [if_neg hm] at h; omega
theorem zD2 : ∀ (l : List NodeT) (c : Bool), ziB l c = 0 -> okAL ArT.ok l
 | [], _, _ => trivial
 | t :: l, c, h => by
  rw [ziB] at h;split at h
  . rename_i e; exact ⟨z8c t c e, zD2 l c h⟩
  . rename_i e; exact absurd h e
end
theorem jYA {t : NodeT} (h : z88 t = true) : okAs ArT.ok t := by
 obtain ⟨k, o, x, s, b, f, r, q, l⟩ := t;unfold z88 at h;simp only [Bool.and_eq_true, decide_eq_true_eq, NodeT.kind, NodeT.args, beq_iff_eq] at h;have hk : k = 0 := of_decide_eq_true h.1.1.1.1.1.1.1.1;have hl : l = [] := List.length_eq_zero_iff.1 (by have := h.2; omega);subst hk hl;exact ⟨fun e => by omega, trivial⟩
theorem jAT {t : NodeT} (h : ywH t = 0) : yG3 t false = 0 := by
 unfold ywH at h;split at h
 . omega
 . split at h
   . omega
   . exact h
theorem jEd {c : ContT} (h : yQy c = true) : okAs ArT.ok c.t := by
 unfold yQy at h;split at h
 . exact jYA ((Bool.and_eq_true _ _).mp h).2
 . split at h
   . exact jYA ((Bool.and_eq_true _ _).mp ((Bool.and_eq_true _ _).mp h).1).1
   . split at h
     . exact z8c c.t false (jAT (by simpa using ((Bool.and_eq_true _ _).mp h).2))
     . cases h
def y44 (cG : Ad -> Ad × Bool) (aG : ArT -> ArT × Bool) (acc : PG) (x : Ad × ContT) : PG := if (cG x.1).2 = true then putP acc (cG x.1).1 (yFo cG aG (jNS x.2)) else acc
def yan (cG : Ad -> Ad × Bool) (aG : ArT -> ArT × Bool) (l : PG) : PG := l.foldl (y44 cG aG) []
def zcM (cG : Ad -> Ad × Bool) (n : Int) (l : PG) : Bool := l.any fun x => !(cG x.1).2 && decide (0 < n)
theorem jon (cG : Ad -> Ad × Bool) (aG : ArT -> ArT × Bool) (l : PG) (x : Ad × ContT) : yan cG aG (l ++ [x]) = y44 cG aG (yan cG aG l) x := by simp [yan]
theorem jNy (cG : Ad -> Ad × Bool) (n : Int) (l : PG) (x : Ad × ContT) : zcM cG n (l ++ [x]) = (zcM cG n l || (!(cG x.1).2 && decide (0 < n))) := by simp [zcM]
end
section
open Go.RowKit Go.Sort Go.Maps Go.Shelf Go.MapKept
attribute [local go_sem] Oper.semAt_some
theorem yGx {fn : Func} {p q : Tmp} {t1 t2 : TypeId} (h : fn.results = #[.cell p t1, .cell q t2]) (tmps : Array Value) (w : World) (b1 b2 : Nat) (u v : Value) (hp : tmps.getD p undef = v_ b1) (hq : tmps.getD q undef = v_ b2)
    (l1 : (loadVar t1 ⟨b1, 0, none⟩).run Tryz.prog w = .ok u w) (l2 : (loadVar t2 ⟨b2, 0, none⟩).run Tryz.prog w = .ok v w) : (results fn tmps).run Tryz.prog w = .ok (.tuple #[u, v]) w := by
 have hp' : tmps[p]?.getD undef = v_ b1 := (by simpa using hp);have hq' : tmps[q]?.getD undef = v_ b2 := (by simpa using hq);simp [results, h, hp', hq', asAddr, l1, l2, Sem.run_bind]
theorem zDK (w : World) (b : Nat) (u : Value) (h : w.cell? ⟨b, 0, none⟩ = some u) : (loadVar 29 ⟨b, 0, none⟩).run Tryz.prog w = .ok u w := by go_simp
theorem jVH (w : World) (b : Nat) (u : Value) (h : w.cell? ⟨b, 0, none⟩ = some u) : (loadVar 35 ⟨b, 0, none⟩).run Tryz.prog w = .ok u w := by go_simp
def yaC (cols : Bool) : Int := if cols then 256 else 4096
theorem yW1 (cols : Bool) (a n : Int) (w : World) :
    Calls Tryz.prog 114 #[.bool cols, a, .int .i64 n] w fun e w' => e = .returned (.tuple #[linV (jls (yaC cols) a n).1, .bool (jls (yaC cols) a n).2]) /\ Xt w w' := by
 cases cols
 . exact jOS a n w
 . exact zLq a n w
theorem yvw {w : World} {b : Nat} {u : Value} {T : TypeId} (h : w.heap[b]? = some (.cells #[u] T (0, 0))) : c_ w b 0 u /\ w.frozen? ⟨b, 0, none⟩ = false := by simp [World.cell?, World.frozen?, h]
def BrR (cols : Bool) (a n : Int) (M : GM) (w : World) (e : Ending) (w' : World) : Prop :=
 Xt w w' /\ ((jls (yaC cols) a n).2 = false /\ e = .returned (.tuple #[.pointer none, .int .i64 1]) \/
  (jls (yaC cols) a n).2 = true /\ (zcM (z7H cols ⟨a, n, yaC cols⟩) n (er M) = true /\ e = .returned (.tuple #[.pointer none, .int .i64 20]) \/
   zcM (z7H cols ⟨a, n, yaC cols⟩) n (er M) = false /\ ∃ go mo Mo, e = .returned (.tuple #[v_ go, .int .i64 0]) /\ GridIs w' go mo Mo /\ er Mo = yan (z7H cols ⟨a, n, yaC cols⟩) (zi9 cols ⟨a, n, yaC cols⟩) (er M) /\ w.heap.size <= mo /\ w.heap.size <= go))
theorem LinAt.kept {w w' : World} {pc pl m : Nat} {cols : Bool} {l : LinT} (h : LinAt w pc pl cols l) (hk : ∀ b, b < m -> w'.heap[b]? = w.heap[b]?) (hm : pc < m /\ pl < m) : LinAt w' pc pl cols l :=
 ⟨(d_ (w := w) (a := ⟨pc, 0, none⟩) (hk _ hm.1)).trans h.c, (d_ (w := w) (a := ⟨pl, 0, none⟩) (hk _ hm.2)).trans h.c0, (d_ (w := w) (a := ⟨pl, 1, none⟩) (hk _ hm.2)).trans h.c1, (d_ (w := w) (a := ⟨pl, 2, none⟩) (hk _ hm.2)).trans h.c2⟩
def tpT (x : TE) : Ad × ContT := (x.1, x.2.1)
theorem z1R {m : Nat} (cols : Bool) (l : LinT) (pc pl : Nat) (h : pc < m /\ pl < m) : RoadIs (fun W => LinAt W pc pl cols l /\ m <= W.heap.size) m 146 148 #[v_ pc, v_ pl] #[v_ pc, v_ pl] (z7H cols l) (zi9 cols l) ArT.ok :=
 ⟨fun w w' hE hs hk => ⟨hE.1.kept hk h, by have := hE.2; omega⟩, fun w hE => hE.2, enters_of Tryz.func146 (by kernel_rfl) rfl, enters_of Tryz.func148 (by kernel_rfl) rfl, fun a w hE => jIR cols l a pc pl w hE.1, fun x w ho hE => jVX cols l x ho pc pl w hE.1⟩
theorem jR0 {w : World} {b o : Nat} {u v : Value} {T : TypeId} (h : w.heap[b]? = some (.cells #[u] T (0, 0))) (hv : w.cell? ⟨b, o, none⟩ = some v) : o = 0 := by
 have h2 : (#[u] : Array Value)[o]? = some v := (by simpa [World.cell?, h] using hv);have := (g_ h2).1;simp at this; omega
theorem ArgsIn.far {w w' : World} {P : Nat -> Prop} (hk : ∀ b, ¬ P b -> w'.heap[b]? = w.heap[b]?) (hP : ∀ b, P b -> ∀ o u, w.cell? ⟨b, o, none⟩ = some u -> o = 0) : ∀ {n : Nat} {av : Value} {l : List NodeT}, ArgsIn w n av l -> ArgsIn w' n av l
 | 0, _, _, h => h
 | n + 1, _, _, h => by
  obtain ⟨a, cap, rfl, h1, h2, h3⟩ := h;refine ⟨a, cap, rfl, h1, h2, fun hne => ?_⟩;obtain ⟨b, off, rfl, hc⟩ := h3 hne;refine ⟨b, off, rfl, fun k t ht => ?_⟩;obtain ⟨av', hcell, hin⟩ := hc k t ht;have hb : ¬ P b := fun e => by
   have e1 := hP b e _ _ (hcell 1 _ rfl);omega
  exact ⟨av', fun i u hu => (d_ (w := w) (a := ⟨b, off + k * 15 + i, none⟩) (hk b hb)).trans (hcell i u hu), hin.far hk hP⟩
theorem GridIs.far {w w' : World} {P : Nat -> Prop} {gb mb : Nat} {M : GM} (h : GridIs w gb mb M) (hk : ∀ b, ¬ P b -> w'.heap[b]? = w.heap[b]?) (hP : ∀ b, P b -> ∀ o u, w.cell? ⟨b, o, none⟩ = some u -> o = 0) (hg : ¬ P gb) (hm : ¬ P mb) : GridIs w' gb mb M :=
 ⟨(d_ (w := w) (a := ⟨gb, 0, none⟩) (hk _ hg)).trans h.cell, let ⟨E, q1, q2⟩ := h.map; ⟨E, q1.of_heap (hk _ hm), q2⟩, h.sorted, fun x hx => ⟨(h.args x hx).1, let ⟨n, hn⟩ := (h.args x hx).2; ⟨n, hn.far hk hP⟩⟩, h.many⟩
theorem zuD {M : GM} {xs : List TE} (h : z2c M (fun _ => true) xs) : xs.map tpT = er M := by
 unfold z2c at h;rw [List.filter_eq_self.2 (fun _ _ => rfl)] at h;exact h
theorem jvE {cG : Ad -> Ad × Bool} {n : Int} {M : GM} {i : Nat} {pre : List TE} (h : z2c (M.take i) (fun _ => true) pre) (hg : zcM cG n (pre.map tpT) = true) : zcM cG n (er M) = true := by
 rw [zuD h] at hg;unfold zcM at *;rw [List.any_eq_true] at *;obtain ⟨x, hx, h2⟩ := hg;refine ⟨x, ?_, h2⟩;unfold er at *;rw [List.map_take] at hx;exact List.mem_of_mem_take hx
structure BI (W0 : World) (go mo : Nat) (cG : Ad -> Ad × Bool) (aG : ArT -> ArT × Bool) (n : Int) (pre : List TE) (W : World) : Prop where
 grown : W0.grownBy W (some mo)
 out : ∃ Mo, GridIs W go mo Mo /\ er Mo = yan cG aG (pre.map tpT)
 go : zcM cG n (pre.map tpT) = false
theorem ypE {a b c : World} {m : Nat} {row : Option Nat} (h : a.grownBy b (some m)) (k : b.grownBy c row) (hr : ∀ r, row = some r -> a.heap.size <= r) : a.grownBy c (some m) :=
 ⟨k.os.trans h.os, k.tape.trans h.tape, k.output.trans h.output, Nat.le_trans h.size k.size, fun i hi hn => (k.block i (Nat.lt_of_lt_of_le hi h.size) (fun e => by have := hr i e.symm; omega)).trans (h.block i hi hn)⟩
theorem z8o {a b c : World} {m : Nat} (h : a.grownBy b (some m)) (k : b.grownBy c (some m)) : a.grownBy c (some m) :=
 ⟨k.os.trans h.os, k.tape.trans h.tape, k.output.trans h.output, Nat.le_trans h.size k.size, fun i hi hn => (k.block i (Nat.lt_of_lt_of_le hi h.size) hn).trans (h.block i hi hn)⟩
theorem BI.own {W0 : World} {go mo : Nat} {cG : Ad -> Ad × Bool} {aG : ArT -> ArT × Bool} {n : Int} (hm : mo < W0.heap.size) : OwnFrom W0.heap.size (fun pre W => BI W0 go mo cG aG n pre W) := fun s X Y row hs hg hr => by
 obtain ⟨h1, ⟨Mo, h2, h3⟩, h4⟩ := hs;exact ⟨ypE h1 hg (fun r e => (hr r e).1), ⟨Mo, h2.kept (zNc hg (fun r e => (hr r e).2)) (hg.block mo (by have := h1.size; omega) (fun e => by have := (hr mo e.symm).1; omega)), h3⟩, h4⟩
theorem BI.start {W0 : World} {go mo : Nat} {cG : Ad -> Ad × Bool} {aG : ArT -> ArT × Bool} {n : Int} (h : GridIs W0 go mo []) : BI W0 go mo cG aG n [] W0 := ⟨⟨rfl, rfl, rfl, Nat.le_refl _, fun _ _ _ => rfl⟩, ⟨[], h, rfl⟩, rfl⟩
theorem BI.xt {W0 W W' : World} {go mo : Nat} {cG : Ad -> Ad × Bool} {aG : ArT -> ArT × Bool} {n : Int} {pre : List TE} (h : BI W0 go mo cG aG n pre W) (hx : Xt W W') : BI W0 go mo cG aG n pre W' :=
 ⟨ypE h.grown hx.grownN (fun r e => by cases e), let ⟨Mo, h2, h3⟩ := h.out; ⟨Mo, h2.xt hx, h3⟩, h.go⟩
theorem zE0 (cols : Bool) (at_ n : Int) (gb mb : Nat) (M : GM) (w : World) (hG : GridIs w gb mb M) (hT : Tabs w) (hO : GOk (er M)) :
    Calls Tryz.prog 73 #[v_ gb, .bool cols, .int .i64 at_, .int .i64 n] w (BrR cols at_ n M w) := by
 have HG := h_ hG;have HT := h_ hT;have HO := h_ hO;obtain ⟨B, hB⟩ := e_ w.heap.size;have HBw := h_ hB;obtain ⟨ok, hok⟩ := e_ ((jls (yaC cols) at_ n).2);have HM := h_ (yW1 cols at_ n);simp only [hok] at HM;have HL : Hid ((jls (yaC cols) at_ n).1 = ⟨at_, n, yaC cols⟩) := rfl;rw [HL.out] at HM;have HOK := h_ hok;obtain ⟨N, hN⟩ := e_ (yaC cols);rw [hN] at HM;have HN := h_ hN;obtain ⟨wa, hwa⟩ := e_ (w.alloc (.cells #[.int .i64 n] 3));have hsa : wa.heap.size = B + 1 := (by rw [<- hwa, <- hB]; simp);obtain ⟨wb, hwb⟩ := e_ (wa.alloc (.cells #[.pointer none] 29))
 have hsb : wb.heap.size = B + 1 + 1 := (by rw [<- hwb]; simp [hsa]);obtain ⟨w0, hw0⟩ := e_ (wb.alloc (.cells #[.int .i64 0] 35));have hs0 : w0.heap.size = B + 1 + 1 + 1 := (by rw [<- hw0]; simp [hsb]);have hx0 : Xt w w0 := (by rw [<- hw0, <- hwb, <- hwa]; exact (((Xt.refl _).alloc _).alloc _).alloc _);have hr0 : w0.heap[B]? = some (.cells #[.int .i64 n] 3 (0, 0)) := rowX (w := wa) (by rw [<- hw0, <- hwb]; exact ((Xt.refl _).alloc _).alloc _) (by rw [<- hwa, <- hB]; exact (a_ w _).1);have hr1 : w0.heap[B + 1]? = some (.cells #[.pointer none] 29 (0, 0)) := rowX (w := wb) (by rw [<- hw0]; exact (Xt.refl _).alloc _) (by rw [<- hwb, <- hsa]; exact (a_ wa _).1)
 have hr2 : w0.heap[B + 1 + 1]? = some (.cells #[.int .i64 0] 35 (0, 0)) := (by rw [<- hw0, <- hsb]; exact (a_ wb _).1);have hc0 : w0.cell? ⟨B, 0, none⟩ = some (.int .i64 n) := (by simp [World.cell?, hr0]);have HX0 := h_ hx0;have HR0 := h_ hr0;have HR1 := h_ hr1;have HR2 := h_ hr2;clear hG hT hO hok hN HL hr0 hr1 hr2 hx0;refine (callsIn_wide (n := 25)).1 ?_;refine callsIn_of_wp_marks Tryz.func73 rfl trivial ?_ rfl;simp only [Tryz.ntmps73, List.size_toArray, List.length_cons, List.length_nil, Nat.reduceAdd, Nat.reduceSub, Array.replicate_succ, Array.replicate_zero, List.push_toArray, List.append_toArray, List.nil_append, List.cons_append];refine wpIn_wide.2 ?_
 refine wp_mono (Q := yUX (bodyPostM Fence.wide 25 Tryz.prog Tryz.f73 (BrR cols at_ n M w))) ?_ yqv;cases ok
 . go_wp2_with (first
    | (go_at_call 114; refine (HM.out _).mono ?_; rintro e w1 ⟨rfl, hx1⟩; obtain ⟨wA, hwA⟩ := e_ (w1.alloc (.cells #[.int .i64 at_, .int .i64 n, .int .i64 N] 147)); have HXA : Hid (Xt w0 wA) := (by unfold Hid; rw [<- hwA]; exact hx1.alloc _); obtain ⟨c1, f1⟩ := yvw (rowX HXA.out HR1.out); obtain ⟨c2, f2⟩ := yvw (rowX HXA.out HR2.out); clear hx1))
   obtain ⟨W', hW'⟩ := e_ ((wA.setCell ⟨B + 1, 0, none⟩ (.pointer none)).setCell ⟨B + 1 + 1, 0, none⟩ (.int .i64 1));have k1 : W'.cell? ⟨B + 1, 0, none⟩ = some (.pointer none) := (by rw [<- hW', o_ _ _ _ _ (by simp)]; exact k_ _ _ _ c1);have k2 : W'.cell? ⟨B + 1 + 1, 0, none⟩ = some (.int .i64 1) := (by rw [<- hW']; exact k_ _ _ _ ((o_ _ _ _ _ (by simp)).trans c2));have hxW : Xt w W' := (by rw [<- hW']; exact ((HX0.out.trans HXA.out).grownB (yiv _ _ _ _) (fun q hq => by cases hq; rw [hB]; omega)).grownB (yiv _ _ _ _) (fun q hq => by cases hq; rw [hB]; omega));rw [hW']
   exact ⟨_, yGx rfl _ _ (B + 1) (B + 1 + 1) (.pointer none) (.int .i64 1) rfl rfl (zDK _ _ _ k1) (jVH _ _ _ k2), hxW, Or.inl ⟨HOK.out, rfl⟩⟩
 . go_wp2_with (first
    | (go_at_call 114; refine (HM.out _).mono ?_; rintro e w1 ⟨rfl, hx1⟩)
    | (go_at_call 115; refine (yzB cols ⟨at_, n, N⟩ _).mono ?_; rintro e w2 ⟨pc, pl, rfl, hLA, hx2⟩)
    | (go_at_call 35; refine (zPb _).mono ?_; rintro e w3 ⟨rfl, hGo, hg3⟩)
    | (go_at_call 37; refine ((callsIn_wide (n := 20)).1 (zkD 20 (by omega) _ _)).mono ?_; rintro e w' ⟨rfl, rfl⟩))
   simp only [World.size_alloc] at hGo;have hx02 : Xt w0 w2 := (hx1.alloc _).trans hx2;have hx23 : Xt w2 w3 := ((Xt.refl w2).alloc _).trans hg3.xt;have hRR := rowX hg3.xt (a_ w2 _).1;obtain ⟨R, hR⟩ := e_ w2.heap.size;obtain ⟨G, hGs⟩ := e_ w3.heap.size;obtain ⟨W0, hW0⟩ := e_ (((w3.alloc (.cells #[v_ (R + 1 + 1)] 29)).alloc (.cells #[v_ gb] 29)).alloc (.cells #[.func (.func 75) #[] #[]] 99));simp only [hR, hGs, hW0] at hGo hRR ⊢;have hx3W : Xt w3 W0 := (by rw [<- hW0]; exact (((Xt.refl w3).alloc _).alloc _).alloc _);have hsW : W0.heap.size = G + 3 := by rw [<- hW0]; simp [hGs]
   have rG : W0.heap[G]? = some (.cells #[v_ (R + 1 + 1)] 29 (0, 0)) := by
    rw [<- hW0, <- hGs];exact rowX (((Xt.refl _).alloc _).alloc _) (a_ w3 _).1
   have rBg : W0.heap[G + 1]? = some (.cells #[v_ gb] 29 (0, 0)) := by
    rw [<- hW0, <- hGs];have := rowX ((Xt.refl _).alloc (.cells #[.func (.func 75) #[] #[]] 99)) (a_ (w3.alloc (.cells #[v_ (R + 1 + 1)] 29)) (.cells #[v_ gb] 29)).1;simpa using this
   have rBw : W0.heap[G + 2]? = some (.cells #[.func (.func 75) #[] #[]] 99 (0, 0)) := by
    rw [<- hW0, <- hGs];have := (a_ ((w3.alloc (.cells #[v_ (R + 1 + 1)] 29)).alloc (.cells #[v_ gb] 29)) (.cells #[.func (.func 75) #[] #[]] 99)).1;simpa using this
   have hx2W : Xt w2 W0 := hx23.trans hx3W;have hx0W : Xt w0 W0 := hx02.trans hx2W;have HX0W := h_ hx0W;have HXW : Hid (Xt w W0) := HX0.out.trans hx0W;have HLAW : Hid (LinAt W0 pc pl cols ⟨at_, n, N⟩) := hLA.xt hx2W;have HGoW : Hid (GridIs W0 (R + 1 + 1) (R + 1) []) := hGo.xt hx3W;have HRRW := h_ (rowX hx3W hRR);have HRG := h_ rG;have hRlt := hGo.lt.1;have hBR : B + 1 + 1 < R := (by have := hx02.size; omega);have hwR : w.heap.size <= R := (by have := HX0.out.size; have := hx02.size; omega);have hplt : pc < R /\ pl < R := ⟨by rw [<- hR]; exact b_ w2 _ hLA.c, by rw [<- hR]; exact b_ w2 _ hLA.c0⟩;have hGR : R + 1 + 1 < G := by omega
   obtain ⟨cG, hcG⟩ := e_ (z7H cols ⟨at_, n, N⟩);obtain ⟨aG, haG⟩ := e_ (zi9 cols ⟨at_, n, N⟩);have HCG := h_ hcG;have HAG := h_ haG;have HcgW : W0.cell? ⟨G + 1, 0, none⟩ = some (.pointer (some ⟨gb, 0, none⟩)) := (by simp [World.cell?, rBg]);clear hW0 hcG haG rG rBg hx0W hx2W hx3W hRR hx23 hx02 hGo hLA hx1 hx2 hg3 hwa hwb hw0 hc0 hGs hR;generalize hA0 : Act.mk _ _ = a0;refine (wpIn_wide (n := 25)).1 ?_;refine jF4 (n := 25) (by omega) (gf := 116) (lb := #[v_ (G + 1), v_ (G + 2)]) (by subst hA0; rfl) (enters_of Tryz.func116 (by kernel_rfl) rfl)
    (z8H (fun x => x == 2 * (R + 1) + 1) 75 #[] (enters_of Tryz.func75 (by kernel_rfl) rfl) (fun _ => true) w.heap.size w rfl (fun _ => True) (fun _ _ _ _ _ => trivial) (fun a W _ => yBt a W) (25 - 1) (by omega) (G + 1) (G + 2) gb mb M HG.out W0 HXW.out trivial (by omega) HcgW rBw (fun k hk => by simp; omega))
    (fun h k => ⟨h.1.trans k.1, h.2.trans k.2⟩) (fun W l o o' hl ho hc hw => ⟨belowK_b (w := W0) (by omega) W l o o' hl ho hc hw, KeepsT.of_grown (grownBy_putObj' W l o') (fun j o2 e h2 => by cases e; rw [ho] at h2; cases h2; cases o <;> simp_all [jG1, Obj.isCells, Obj.isWalk])⟩) (Below.refl _ _) (fun _ => rfl)
    (fun pre W => BI W0 (R + 1 + 1) (R + 1) cG aG n pre W)
    (fun c pre W => c = .ret /\ Xt w W /\ r_ W (B + 1) #[.pointer none] 29 /\ r_ W (B + 1 + 1) #[.int .i64 20] 35 /\ zcM cG n (pre.map tpT) = true)
    (BI.own (by omega))
    (fun c s X Y row hs hg hr => ⟨hs.1, hs.2.1.grownB hg (fun q hq => by have := (hr q hq).1; omega), jI8 hs.2.2.1 hg (fun r e => (hr r e).2), jI8 hs.2.2.2.1 hg (fun r e => (hr r e).2), hs.2.2.2.2⟩)
    (BI.start HGoW.out)
    (fun x a' W => ∃ (z : CE) (Bx By nT : Nat), z.1 = jNS x.2.1 /\ z.2 = x.2.2 /\ r_ W Bx #[x.1.1, x.1.2] 24 /\ r_ W By (rQ z.1 (.slice z.2 z.1.t.args.length z.1.t.args.length)) 51 /\ yQE z.1.t /\ ArgsIn W nT (.slice z.2 z.1.t.args.length z.1.t.args.length) z.1.t.args /\ (x.1, x.2.1) ∈ er M /\
     a' = { tmps := (((a0.tmps.setIfInBounds 37 (adW x.1)).setIfInBounds 38 (ceV z)).setIfInBounds 14 (v_ Bx)).setIfInBounds 15 (v_ By), defers := [] })
    (fun x a' _ X Y row hs hg hr => by
     obtain ⟨z, Bx, By, nT, e1, e2, h1, h2, h3, h4, h5⟩ := hs;exact ⟨z, Bx, By, nT, e1, e2, jI8 h1 hg (fun r e => (hr r e).2), jI8 h2 hg (fun r e => (hr r e).2), h3, h4.kept (zNc hg (fun r e => (hr r e).2)), h5⟩)
    ?assign ?body ?done ?stop
   case stop =>
    rintro D c pre W hD ⟨i, hS⟩ ⟨rfl, hxW, k1, k2, hgo⟩ hK;subst hA0;refine (wpIn_wide (n := 25)).2 ?_;go_wp2_with fail;refine ⟨by simp, .inl ⟨_, _, rfl, run_takeDeferred hK, ?_⟩⟩;have k1' : (W.putObj D (.deferred none)).heap[B + 1]? = some (.cells #[.pointer none] 29 (0, 0)) := (World.putObj_heap_other (by omega)).trans k1;have k2' : (W.putObj D (.deferred none)).heap[B + 1 + 1]? = some (.cells #[.int .i64 20] 35 (0, 0)) := (World.putObj_heap_other (by omega)).trans k2;have hxE : Xt w (W.putObj D (.deferred none)) := hxW.grownB (grownBy_putObj' W D _) (fun q hq => by cases hq; have := HXW.out.size; omega)
    refine ⟨_, yGx rfl _ _ (B + 1) (B + 1 + 1) (.pointer none) (.int .i64 20) rfl rfl (zDK _ _ _ (yvw k1').1) (jVH _ _ _ (yvw k2').1), hxE, Or.inr ⟨HOK.out, Or.inl ⟨?_, rfl⟩⟩⟩;rw [HN.out, HCG.out];exact jvE hS hgo
   case done =>
    rintro D xs W hD hS hI hK;subst hA0;obtain ⟨hgr, ⟨Mo, hGo, hEo⟩, hNS⟩ := hI;have HGo := h_ hGo;have HEo := h_ hEo;have HNS := h_ hNS;have HSS := h_ (zuD hS);have r1 := (hgr.block (B + 1) (by omega) (fun e => by have := i_ e; omega)).trans (rowX HX0W.out HR1.out);have r2 := (hgr.block (B + 1 + 1) (by omega) (fun e => by have := i_ e; omega)).trans (rowX HX0W.out HR2.out);have rG := (hgr.block G (by omega) (fun e => by have := i_ e; omega)).trans HRG.out;obtain ⟨c1, f1⟩ := yvw r1;obtain ⟨c2, f2⟩ := yvw r2;obtain ⟨cGG, _⟩ := yvw rG;have HxW : Hid (Xt w W) := HXW.out.grownB hgr (fun q hq => by cases hq; omega)
    have HK := h_ hK;have HC1c := h_ r1;have HC2c := h_ r2;clear hGo hEo hNS hS hgr r1 r2 rG hK;go_wp2_with fail;obtain ⟨W', hW'⟩ := e_ ((W.setCell ⟨B + 1, 0, none⟩ (v_ (R + 1 + 1))).setCell ⟨B + 1 + 1, 0, none⟩ (.int .i64 0));have k1 : W'.cell? ⟨B + 1, 0, none⟩ = some (.pointer (some ⟨R + 1 + 1, 0, none⟩)) := (by rw [<- hW', o_ _ _ _ _ (by simp)]; exact k_ _ _ _ c1);have k2 : W'.cell? ⟨B + 1 + 1, 0, none⟩ = some (.int .i64 0) := by rw [<- hW']; exact k_ _ _ _ ((o_ _ _ _ _ (by simp)).trans c2)
    have hgW : Wr (fun b => b = B + 1 \/ b = B + 1 + 1) W W' := (by rw [<- hW']; exact (Wr.cell _ (Or.inl rfl)).trans (Wr.cell _ (Or.inr rfl)));have hKW : W'.heap[D]? = some (.deferred (some [])) := (hgW.block D (g_ HK.out).1 (fun e => by omega)).trans HK.out;have hGW : GridIs (W'.putObj D (.deferred none)) (R + 1 + 1) (R + 1) Mo := by
     have hk : ∀ b, b ≠ B + 1 -> b ≠ B + 1 + 1 -> b ≠ D -> (W'.putObj D (.deferred none)).heap[b]? = W.heap[b]? := fun b h1 h2 h3 => (World.putObj_heap_other h3).trans (by rw [<- hW']; exact (s_ _ _ _ _ h2).trans (s_ _ _ _ _ h1));exact HGo.out.far (P := fun b => b = B + 1 \/ b = B + 1 + 1 \/ b = D) (fun b hb => hk b (fun e => hb (Or.inl e)) (fun e => hb (Or.inr (Or.inl e))) (fun e => hb (Or.inr (Or.inr e))))
      (fun b hb o u hu => by
       rcases hb with rfl | rfl | rfl
       . exact jR0 HC1c.out hu
       . exact jR0 HC2c.out hu
       . rw [World.cell?, HK.out] at hu; cases hu) (by omega) (by omega)
    rw [hW'];refine ⟨by simp, .inl ⟨_, _, rfl, run_takeDeferred hKW, ?_⟩⟩;have hcell : ∀ b, b ≠ D -> ∀ u, W'.cell? ⟨b, 0, none⟩ = some u -> (W'.putObj D (.deferred none)).cell? ⟨b, 0, none⟩ = some u := fun b hb u hu => (d_ (w := W') (a := ⟨b, 0, none⟩) (World.putObj_heap_other (by exact hb))).trans hu;have hxE : Xt w (W'.putObj D (.deferred none)) := by
     have h1 : Xt w W' := hgW.xt HxW.out (fun b hb => by rcases hb with e | e <;> omega);exact h1.grownB (grownBy_putObj' W' D _) (fun q hq => by cases hq; have := HXW.out.size; omega)
    refine ⟨_, yGx rfl _ _ (B + 1) (B + 1 + 1) (v_ (R + 1 + 1)) (.int .i64 0) rfl rfl (zDK _ _ _ (hcell _ (by omega) _ k1)) (jVH _ _ _ (hcell _ (by omega) _ k2)), hxE, Or.inr ⟨HOK.out, Or.inr ⟨?_, R + 1 + 1, R + 1, Mo, rfl, ?_, ?_, by omega, by omega⟩⟩⟩
    . rw [HN.out, HCG.out, <- HSS.out]; exact HNS.out
    . exact hGW
    . rw [HN.out, HCG.out, HAG.out, <- HSS.out]; exact HEo.out
   case assign =>
    rintro l0 pre x W K hI ⟨V, hIV, ⟨hxV, hsm, nT, hA⟩, hmem⟩ hK;subst hA0;obtain ⟨⟨c, d⟩, tc, tp⟩ := x;obtain ⟨z, hz1, hz2⟩ : ∃ z : CE, z.1 = jNS tc /\ z.2 = tp := ⟨(jNS tc, tp), rfl, rfl⟩;have hzv : ysf tc tp = ceV z := (by rw [<- jX1]; obtain ⟨z1, z2⟩ := z; simp only at hz1 hz2; rw [hz1, hz2]);have hzA : yQE z.1.t /\ ArgsIn W nT (.slice z.2 z.1.t.args.length z.1.t.args.length) z.1.t.args := by
     rw [hz1, hz2];refine ⟨jXA _ hsm, ?_⟩
     show ArgsIn _ _ (.slice tp (copyT tc.t).args.length (copyT tc.t).args.length) (copyT tc.t).args
     rw [copyT_len, zH4];exact hA.args
    have HZ := h_ (show z.1 = jNS tc /\ z.2 = tp from ⟨hz1, hz2⟩);have HZA := h_ hzA;simp only [teV, hzv];clear hz1 hz2 hzv hzA hA hsm hIV hxV;obtain ⟨wA, hwA, hbA, hsA, kA0, kA1⟩ := box1 W c d 24;obtain ⟨wZ, wR, hwZ, hwR, hrZ, hrR, hxR, hsR, hxZ, hsZ⟩ := boxR wA z;rw [hsA] at hrZ hwR hrR;have hrA : wA.heap[W.heap.size]? = some (.cells #[c, d] 24 (0, 0)) := (by rw [<- hwA]; exact World.alloc_heap_new W _);have hxWR := h_ (Xt.trans hbA hxR);have HRA := h_ ((hxR.block _ (by omega)).trans hrA);have HRZ := h_ hrZ;have HRR := h_ hrR;have HWR := h_ hwR;clear hrZ hwR hrR hrA kA0 kA1 hbA hxZ hxR
    gi_wp2_with (first | (refine zm0 (P := Tryz.prog) rfl 51 _ _ rfl (W.heap.size + 1) #[.int .i64 z.1.kind, .int .i64 z.1.v.kind, .float .f64 z.1.v.x, .string z.1.v.s, .bool z.1.v.b, .int .i64 z.1.v.f, .int .i64 z.1.t.kind, .int .i64 z.1.t.op, .float .f64 z.1.t.x, .string z.1.t.s, .bool z.1.t.b, .int .i64 z.1.t.f, .int .i64 z.1.t.ref.a.1, .int .i64 z.1.t.ref.a.2, .bool z.1.t.ref.cf, .bool z.1.t.ref.rf, .int .i64 z.1.t.to.a.1, .int .i64 z.1.t.to.a.2, .bool z.1.t.to.cf, .bool z.1.t.to.rf, .slice z.2 z.1.t.args.length z.1.t.args.length] rfl rfl 51 _ HRZ.out (by kernel_rfl) rfl (by simp [Value.oneCell']) ?_; rw [HWR.out]))
    have hx := hxWR.out;refine hK _ _ (jWD hx _) ⟨hx.mono (by have := hI.grown.size; have := HXW.out.size; omega), KeepsT.of_xt hx⟩ (hI.xt hx) ?_;refine ⟨z, W.heap.size, W.heap.size + 1, nT, HZ.out.1, HZ.out.2, HRA.out, HRR.out, HZA.out.1, HZA.out.2.xt hx, hmem, ?_⟩;simp only [List.setIfInBounds_toArray, List.set_cons_zero, List.set_cons_succ]
   case body =>
    rintro l0 pre x a' W hl0 ⟨r, hr⟩ hI ⟨z, Bx, By, nT, hz1, hz2, hBx, hBy, hzs, hzA, hmem, rfl⟩ hlt;subst hA0;obtain ⟨⟨c, d⟩, tc, tp⟩ := x;simp only at hBx hz1 hz2;obtain ⟨hgr, ⟨Mo, hGo, hEo⟩, hNS⟩ := hI;have HGo := h_ hGo;have HEo := h_ hEo;have HNS := h_ hNS;have HGr := h_ hgr;have hgs := hgr.size;have rB := (hgr.block B (by omega) (fun e => by have := i_ e; omega)).trans (rowX HX0W.out HR0.out);have r1 := (hgr.block (B + 1) (by omega) (fun e => by have := i_ e; omega)).trans (rowX HX0W.out HR1.out);have r2 := (hgr.block (B + 1 + 1) (by omega) (fun e => by have := i_ e; omega)).trans (rowX HX0W.out HR2.out)
    have rG := (hgr.block G (by omega) (fun e => by have := i_ e; omega)).trans HRG.out;have rR := (hgr.block R (by omega) (fun e => by have := i_ e; omega)).trans HRRW.out;have HLW : Hid (LinAt W pc pl cols ⟨at_, n, N⟩) := HLAW.out.kept (m := R) (fun b hb => hgr.block b (by omega) (fun e => by have := i_ e; omega)) hplt;have hf45 : Fence.wide.fn 146 := trivial;have HC1 := h_ (jIR cols ⟨at_, n, N⟩ (c, d) pc pl W HLW.out);rw [HCG.out] at HC1;obtain ⟨q, hq⟩ := e_ (cG (c, d));rw [hq] at HC1;have HQ := h_ hq;obtain ⟨⟨q1, q2⟩, qo⟩ := q;obtain ⟨x0, x1, _, _⟩ := zxi hBx;obtain ⟨y0, y1, _, _⟩ := zxi rR
    obtain ⟨cB, _⟩ := yvw rB;have HBY := h_ hBy;have HR1W := h_ r1;have HR2W := h_ r2;have HRGW := h_ rG;have HRRW2 := h_ rR;have HXWW : Hid (Xt w W) := HXW.out.grownB hgr (fun q hq => by have := i_ hq; omega);have hByl := (g_ hBy).1;have HZ := h_ (show z.1 = jNS tc /\ z.2 = tp from ⟨hz1, hz2⟩);have HZA := h_ (show yQE z.1.t /\ ArgsIn W nT (.slice z.2 z.1.t.args.length z.1.t.args.length) z.1.t.args from ⟨hzs, hzA⟩);have hBm : By ≠ R + 1 := fun e => by
     obtain ⟨E, hm, _⟩ := HGo.out.map;have h1 := hm.nocell 0;rw [<- e] at h1;simp [World.cell?, hBy] at h1
    obtain ⟨v1, v2, v3, v4, v5⟩ := HO.out.each _ hmem;have HVZ : Hid (yQy z.1 = true) := (by unfold Hid; rw [hz1, yuh]; exact v2);have HOZ : Hid z.1.ok := (by unfold Hid; rw [hz1]; exact jvQ v5);have HZC : Hid (jNS tc = z.1) := hz1.symm;clear v1 v2 v3 v4 v5 hmem;clear hGo hEo hNS hgr rB r1 r2 rG rR hBx hBy hz1 hz2 hq hzs hzA hr hlt;simp only [List.setIfInBounds_toArray, List.set_cons_zero, List.set_cons_succ];cases qo
    . by_cases hn : 0 < n
      . gi_wp2_with (first
         | (gi_at_call 146; refine (jbR HC1.out).mono ?_; rintro e w5 ⟨rfl, hx5⟩; obtain ⟨w6, hw6⟩ := e_ (w5.alloc (.cells #[q1, q2] 24)); have HX6 : Hid (Xt W w6) := (by unfold Hid; rw [<- hw6]; exact hx5.alloc _); have cB6 := HX6.out.cellsIn _ _ _ cB; obtain ⟨c1, f1⟩ := yvw (rowX HX6.out HR1W.out); obtain ⟨c2, f2⟩ := yvw (rowX HX6.out HR2W.out); clear hx5))
        have hgW : Wr (fun b => b = B + 1 \/ b = B + 1 + 1) W ((w6.setCell ⟨B + 1, 0, none⟩ (.pointer none)).setCell ⟨B + 1 + 1, 0, none⟩ (.int .i64 20)) := (Wr.of_xt HX6.out).trans ((Wr.cell _ (Or.inl rfl)).trans (Wr.cell _ (Or.inr rfl)));refine ⟨⟨hgW.size, fun k o hB hk _ => (hgW.block k (g_ hk).1 (fun e => by omega)).trans hk⟩, rfl, hgW.xt HXWW.out (fun b hb => by rcases hb with e | e <;> omega), (s_ _ _ _ _ (by simp)).trans (ysv (rowX HX6.out HR1W.out) 0 _), ysv ((s_ _ _ _ _ (by simp)).trans (rowX HX6.out HR2W.out)) 0 _, ?_⟩;rw [List.map_append, List.map_cons, List.map_nil, jNy];simp [tpT, HQ.out, hn]
      . gi_wp2_with (first
         | (gi_at_call 146; refine (jbR HC1.out).mono ?_; rintro e w5 ⟨rfl, hx5⟩; obtain ⟨w6, hw6⟩ := e_ (w5.alloc (.cells #[q1, q2] 24)); have HX6 : Hid (Xt W w6) := (by unfold Hid; rw [<- hw6]; exact hx5.alloc _); have cB6 := HX6.out.cellsIn _ _ _ cB; clear hx5))
        have hx6 := HX6.out;refine ⟨jWD hx6 _, ⟨hx6.mono (by omega), KeepsT.of_xt hx6⟩, ?_⟩;refine ⟨ypE HGr.out hx6.grownN (fun r e => by cases e), ⟨Mo, HGo.out.xt hx6, ?_⟩, ?_⟩
        . rw [List.map_append, List.map_cons, List.map_nil, jon, HEo.out];simp [tpT, y44, HQ.out]
        . rw [List.map_append, List.map_cons, List.map_nil, jNy, HNS.out];simp [tpT, hn]
    . gi_wp2_with (first
          | (gi_at_call 146; refine (jbR HC1.out).mono ?_; rintro e w5 ⟨rfl, hx5⟩; obtain ⟨w6, hw6⟩ := e_ (w5.alloc (.cells #[q1, q2] 24)); have HX6 : Hid (Xt W w6) := (by unfold Hid; rw [<- hw6]; exact hx5.alloc _); obtain ⟨n0, n1, _, _⟩ := zxi (w := w6) (b := w5.heap.size) (by rw [<- hw6]; exact (a_ w5 _).1); clear hx5))
      have HGW6 : Hid (GridIs w6 (R + 1 + 1) (R + 1) Mo) := HGo.out.xt HX6.out;have hs56 : w5.heap.size ≠ R + 1 := by
       intro e;obtain ⟨E, hm, _⟩ := HGW6.out.map;have h1 := hm.nocell 0;rw [<- e, n0] at h1;cases h1
      have HF : Hid (∀ V, w6.grownBy V (some (R + 1)) -> c_ V G 0 (v_ (R + 1 + 1)) /\ c_ V w5.heap.size 0 q1 /\ c_ V w5.heap.size 1 q2 /\ c_ V R 0 (.func (.func 146) #[] #[v_ pc, v_ pl]) /\ c_ V R 1 (.func (.func 148) #[] #[v_ pc, v_ pl]) /\ r_ V By (rQ z.1 (.slice z.2 z.1.t.args.length z.1.t.args.length)) 51) := h_ fun V hV => by
       have k : ∀ b, b ≠ R + 1 -> ∀ o u, w6.cell? ⟨b, o, none⟩ = some u -> V.cell? ⟨b, o, none⟩ = some u := fun b hb o u hu => (d_ (w := w6) (a := ⟨b, o, none⟩) (hV.block b (b_ w6 _ hu) (fun e => hb (by have := i_ e; omega)))).trans hu;obtain ⟨y0', y1', _, _⟩ := zxi (rowX HX6.out HRRW2.out);have hb6 := rowX HX6.out HBY.out;exact ⟨k G (by omega) 0 _ (yvw (rowX HX6.out HRGW.out)).1, k _ hs56 0 _ n0, k _ hs56 1 _ n1, k R (by omega) 0 _ y0', k R (by omega) 1 _ y1', (hV.block By (g_ hb6).1 (fun e => hBm (by have := i_ e; omega))).trans hb6⟩
      have HCT := h_ (yDY (z1R (m := R) cols ⟨at_, n, N⟩ pc pl hplt) nT z.1 z.2 z.1.t.args.length w6.drew ⟨HLW.out.xt (HX6.out.trans (Xt.refl w6).drew), by have := HX6.out.size; show R <= w6.heap.size; omega⟩ HZA.out.1 (HZA.out.2.xt (HX6.out.trans (Xt.refl w6).drew)) (jEd HVZ.out));rw [HCG.out, HAG.out] at HCT;clear n0 n1 x0 x1 y0 y1 cB;refine zM3 (S := fun V => w6.grownBy V (some (R + 1))) (by kernel_rfl) (by kernel_rfl) (fun _ _ h => h) (⟨rfl, rfl, rfl, Nat.le_refl _, fun _ _ _ => rfl⟩ : w6.grownBy w6.drew _) (fun hHeld => ?_)
      refine tk (fun _ h => And.intro (HF.out _ h).1 (And.intro (HF.out _ h).2.1 (And.intro (HF.out _ h).2.2.1 (And.intro (HF.out _ h).2.2.2.1 ((HF.out _ h).2.2.2.2.1))))) 0 ?_;refine tk (fun _ h => And.intro (HF.out _ h).1 (And.intro (HF.out _ h).2.1 (And.intro (HF.out _ h).2.2.1 (And.intro (HF.out _ h).2.2.2.1 ((HF.out _ h).2.2.2.2.1))))) 1 ?_;refine tk (fun _ h => And.intro (HF.out _ h).1 (And.intro (HF.out _ h).2.1 (And.intro (HF.out _ h).2.2.1 (And.intro (HF.out _ h).2.2.2.1 ((HF.out _ h).2.2.2.2.1))))) 2 ?_
      refine tkH 3 (.agg (rQ z.1 (.slice z.2 z.1.t.args.length z.1.t.args.length))) ?_ ?_
      . intro V hSw; exact jad 51 _ (by rfl) By (by rfl) 51 _ _ _ (HF.out V hSw).2.2.2.2.2 Tryz.underlying51 rfl (by kernel_rfl)
      try simp only [Act.put, nm]
      refine rdH 4 (fun K hK => ?_);go_simp;refine (HCT.out).mono ?_;rintro e w7 ⟨a2, c2, rfl, hA7, hx7⟩;have HX7 : Hid (Xt W w7) := (HX6.out.trans (Xt.refl w6).drew).trans hx7;have HP := h_ (zbE nT (R + 1 + 1) (R + 1) Mo (q1, q2) (yFo cG aG z.1) a2 c2 w7 (HGo.out.xt HX7.out) (yFU HOZ.out) (HT.out.xt (HXWW.out.trans HX7.out)) (jCt HZA.out.1) hA7);refine ko hK (z8o hHeld (hx7.grown (some (R + 1)))) fun hHeld2 => ?_;clear hK K hA7 hx7;refine rdH 5 (fun K hK => ?_);go_simp;refine (HP.out).mono ?_;rintro e w8 ⟨zz, rfl, hG8, hg8⟩;refine hK.out _ _ (z8o hHeld2 hg8) (fun hHeld3 => ?_);clear hK K;refine z_ (by kernel_rfl) ?_ _
      have hgW : W.grownBy w8 (some (R + 1)) := z8o (HX7.out.grown (some (R + 1))) hg8;clear hHeld hHeld2 hHeld3
      gi_wp2_with fail
      refine ⟨⟨hgW.size, fun k o hB hk _ => (hgW.block k (g_ hk).1 (fun e => by have := i_ e; omega)).trans hk⟩, ⟨⟨hgW.os, hgW.tape, hgW.output, hgW.size, fun k hk => hgW.block k (by omega) (fun e => by have := i_ e; omega)⟩, KeepsT.of_grown hgW (fun j o e ho => ?_)⟩, ⟨z8o HGr.out hgW, ⟨j4E Mo (q1, q2) (yFo cG aG z.1) zz, hG8, ?_⟩, ?_⟩⟩
      . obtain ⟨E, hm, _⟩ := HGo.out.map;obtain ⟨es, clk, h1, _⟩ := hm;have e1 := i_ e;rw [<- e1, h1] at ho;cases ho;simp [jG1, <- e1]
      . rw [yZx, List.map_append, List.map_cons, List.map_nil, jon, HEo.out];simp [tpT, y44, HQ.out, HZC.out]
      . rw [List.map_append, List.map_cons, List.map_nil, jNy, HNS.out];simp [tpT, HQ.out]
end
section
open Go.RowKit Go.Sort
theorem jDf (a : Ad) (w : World) : Calls Tryz.prog 14 #[a.1, a.2] w fun e w' => e = .returned (.agg #[a.1, a.2]) /\ Gr w w' := by
 go_enter Tryz.func14, Tryz.ntmps14;go_wp2
 (try simp only [Exit.inBlock, Exit.then])
 refine p_ (t_ rfl _ _ w.heap.size _ _ _ _ rfl (heap_alloc_new _ _) Tryz.underlying24 rfl (by kernel_rfl)) rfl ?_;exact ⟨rfl, (Gr.refl _).alloc _⟩
def refT (a : Ad) : NodeT := .mk 5 0 0 ⟨#[]⟩ false 0 ⟨a, false, false⟩ zR []
theorem ref_any (a : Ad) (w : World) : Calls Tryz.prog 36 #[.agg #[a.1, a.2]] w fun e w' => e = .returned (jSk (refT a) none 0 0) /\ Xt w w' := by
 go_enter Tryz.func36, Tryz.ntmps36;go_wp2
 (try simp only [Exit.inBlock, Exit.then])
 refine p_ (t_ rfl _ _ (w.heap.size + 1) _ _ _ _ rfl (by
  have := heap_alloc_new (w.alloc (.cells #[a.1, a.2] 24));simpa using this _) Tryz.underlying49 rfl (by kernel_rfl)) rfl ?_
 exact ⟨rfl, ((Xt.refl _).alloc _).alloc _⟩
theorem yaX (at_ n : Int) (gb mb : Nat) (M : GM) (w : World) (hG : GridIs w gb mb M) (hT : Tabs w) (hO : GOk (er M)) :
    Calls Tryz.prog 33 #[v_ gb, .int .i64 at_, .int .i64 n] w (BrR false at_ n M w) := by
 have HB := h_ (zE0 false at_ n gb mb M w hG hT hO);go_enter Tryz.func33, Tryz.ntmps33;go_wp2_with (first | (go_at_call 73; refine (HB.out).mono ?_; rintro e w1 ⟨hx, (⟨h1, rfl⟩ | ⟨h1, (⟨h2, rfl⟩ | ⟨h2, go, mo, Mo, rfl, h3⟩)⟩)⟩))
 . go_ret2
   exact ⟨hx, Or.inl ⟨h1, rfl⟩⟩
 . go_ret2
   exact ⟨hx, Or.inr ⟨h1, Or.inl ⟨h2, rfl⟩⟩⟩
 . go_ret2
   exact ⟨hx, Or.inr ⟨h1, Or.inr ⟨h2, go, mo, Mo, rfl, h3⟩⟩⟩
def NodesR (t : NodeT) (w : World) (e : Ending) (w' : World) : Prop :=
 ∃ b a' n, e = .returned (.func (.func 77) #[] #[v_ b]) /\ w.heap.size <= b /\ r_ w' b ((nodeC (copyT t) (.slice a' t.args.length t.args.length)).toArray) 49 /\
  ArgsIn w' n (.slice a' t.args.length t.args.length) (jEz t.args) /\ Xt w w'
theorem yFe (n : Nat) (t : NodeT) (a : Option Addr) (cap : Nat) (w : World) (hsm : yQE t) (hin : ArgsIn w n (.slice a t.args.length cap) t.args) :
    Calls Tryz.prog 38 #[jSk t a t.args.length cap] w (NodesR t w) := by
 obtain ⟨w0, hw0, hg0, hs0, hN⟩ := boxN w t a t.args.length cap 49;obtain ⟨c0, c1, c2, c3, c4, c5, c6, c7, c8, c9, c10, c11, c12, c13, c14⟩ := hN;simp only [Nat.zero_add] at c0 c1 c2 c3 c4 c5 c6 c7 c8 c9 c10 c11 c12 c13 c14;have HC := h_ (yiJ n t a cap w0 hsm (hin.xt hg0.xt));have HG0 := h_ hg0;clear hg0 hsm hin;go_enter Tryz.func38, Tryz.ntmps38;go_wp2_with (first | (go_at_call 76; refine (HC.out).mono ?_; rintro e w1 ⟨a', rfl, hS, hx⟩; have HS := h_ hS; have HX := h_ hx; clear hS hx))
 go_ret;have hx2 : Xt w w1 := HG0.out.xt.trans HX.out;refine ⟨w1.heap.size, a', n, rfl, hx2.size, ?_, (HS.out.own.args).xt ((Xt.refl _).alloc _), hx2.alloc _⟩;obtain ⟨k, o, x, s, bb, f, r, q, l⟩ := t;exact (a_ w1 _).1
theorem j0f (x : ArT) (w : World) : Calls Tryz.prog 39 #[arT x] w fun e w' => e = .returned (.func (.func 79) #[] #[v_ w.heap.size]) /\ w' = w.alloc (.cells #[x.a, x.b, x.c, x.d] 26) := by
 go_enter Tryz.func39, Tryz.ntmps39;go_wp2;go_ret;exact ⟨rfl, rfl⟩
def jJ5 (c n : Int) : Int := if c < 0 then -((c + 1).tmod n) else c % n
theorem ynw {x : Int} (h0 : -9223372036854775808 <= x) (h1 : x <= 9223372036854775807) : IntKind.i64.wrap x = x := by rw [IntKind.wrap_i64]; omega
theorem zbm {c n : Int} (hn : 0 < n) : 0 <= jJ5 c n /\ jJ5 c n < n := by
 unfold jJ5;split
 . have a3 : 0 <= (-(c + 1)).tmod n := Int.tmod_nonneg _ (by omega);have a4 : (-(c + 1)).tmod n < n := Int.tmod_lt_of_pos _ hn;rw [Int.neg_tmod] at a3 a4;exact ⟨a3, a4⟩
 . exact ⟨Int.emod_nonneg _ (by omega), Int.emod_lt_of_pos _ hn⟩
theorem zZA (c n : Int) (w : World) (h0 : -9223372036854775808 <= c) (h1 : c <= 9223372036854775807) (hn : 0 < n) (hn1 : n <= 9223372036854775807) : Calls Tryz.prog 32 #[c, .int .i64 n] w fun e w' => e = .returned (.int .i64 (jJ5 c n)) /\ w = w' := by
 have hn0 : (n == 0) = false := (by simp; omega);have hn2 : ¬ n = 0 := (by omega);by_cases hc : c < 0
 . have hz : jJ5 c n = -((c + 1).tmod n) := (by unfold jJ5; rw [if_pos hc]);have a1 : IntKind.i64.wrap (c + 1) = c + 1 := ynw (by omega) (by omega);have a2 : IntKind.i64.wrap (-(c + 1)) = -(c + 1) := ynw (by omega) (by omega);have a3 : 0 <= (-(c + 1)).tmod n := Int.tmod_nonneg _ (by omega);have a4 : (-(c + 1)).tmod n < n := Int.tmod_lt_of_pos _ hn;have a5 : IntKind.i64.wrap ((-(c + 1)).tmod n) = (-(c + 1)).tmod n := ynw (by omega) (by omega);have HZ := h_ hz;clear hz;go_enter Tryz.func32, Tryz.ntmps32;go_wp2_with fail;go_ret;refine ⟨?_, rfl⟩;rw [HZ.out];first | rfl | simp
 . have hz : jJ5 c n = c % n := (by unfold jJ5; rw [if_neg hc]);have a3 : 0 <= c.tmod n := Int.tmod_nonneg _ (by omega);have a4 : c.tmod n < n := Int.tmod_lt_of_pos _ hn;have a5 : IntKind.i64.wrap (c.tmod n) = c.tmod n := ynw (by omega) (by omega);have HZ := h_ hz;clear hz;go_enter Tryz.func32, Tryz.ntmps32;go_wp2_with fail;go_ret;refine ⟨?_, rfl⟩;rw [HZ.out];first | rfl | simp
theorem zQK (gb : Nat) (w : World) : Calls Tryz.prog 30 #[v_ gb] w fun e w' => e = .returned (.func (.func 116) #[] #[v_ w.heap.size, v_ (w.heap.size + 1)]) /\ w' = (w.alloc (.cells #[v_ gb] 29)).alloc (.cells #[.func (.func 75) #[] #[]] 99) := by
 have hq := fun w f lb => jGY (P := Tryz.prog) w 75 _ _ _ (.func f) #[] lb Tryz.underlying75;go_enter Tryz.func30, Tryz.ntmps30;go_wp2_with (first | (go_at_call 37; refine ((callsIn_wide (n := 20)).1 (zkD 20 (by omega) _ _)).mono ?_; rintro e w' ⟨rfl, rfl⟩))
 go_ret;exact ⟨rfl, rfl⟩
end
section
open Go.RowKit Go.Sort Go.Maps Go.Shelf
attribute [local go_sem] Oper.semAt_some
def jXe : NodeT -> NodeT
 | .mk k o x s b f r q _ => .mk k o x s b f r q []
mutual
def jBl : NodeT -> List NodeT
 | .mk k o x s b f r q l => .mk k o x s b f r q [] :: jWl l
def jWl : List NodeT -> List NodeT
 | [] => []
 | t :: l => jBl t ++ jWl l
end
theorem yVR (t : NodeT) : jBl t = jXe t :: jWl t.args := by cases t; rw [jBl]; rfl
structure KN (W W' : World) : Prop where
 size : W.heap.size <= W'.heap.size
 same : ∀ (k : Nat) (cs : Array Value) (fz : Nat × Nat), W.heap[k]? = some (.cells cs 49 fz) -> W'.heap[k]? = some (.cells cs 49 fz)
theorem KN.refl (W : World) : KN W W := ⟨Nat.le_refl _, fun _ _ _ h => h⟩
theorem KN.trans {A B C : World} (h : KN A B) (k : KN B C) : KN A C := ⟨Nat.le_trans h.size k.size, fun b cs fz e => k.same b cs fz (h.same b cs fz e)⟩
theorem KN.of_xt {W W' : World} (h : Xt W W') : KN W W' := ⟨h.size, fun k _ _ e => (h.block k (g_ e).1).trans e⟩
theorem jB7 {m m' l : Nat} {P : Program} {args : Array Value} {W : World} {R : Ending -> World -> Prop} (h : YieldAt Fence.wide m P l args W R) : YieldAt Fence.wide m' P l args W R :=
 let ⟨fn, tmps, assign, body, hy, hR⟩ := h
 ⟨fn, tmps, assign, body, hy, ⟨hR.1, fun c cs _ => hR.2 c cs (room_wide _)⟩⟩
end
section
open Go.RowKit Go.Sort Go.Maps Go.Shelf Go.MapKept
attribute [local go_sem] Oper.semAt_some
def cntK (l : List NodeT) : Nat := (l.filter fun x => decide (x.kind = 4)).length
def zF0 (t : NodeT) : Nat := cntK (jBl t)
mutual
theorem z5y : ∀ t : NodeT, jBl (copyT t) = (jBl t).map copyT
 | .mk k o x s b f r q l => by
  rw [copyT, jBl, jBl, List.map_cons, zHf l];rfl
theorem zHf : ∀ l : List NodeT, jWl (jEz l) = (jWl l).map copyT
 | [] => rfl
 | t :: l => by rw [jEz, jWl, jWl, List.map_append, z5y t, zHf l]
end
structure LJ {α : Type} (W0 : World) (R : Nat) (f : List α -> Int) (pre : List α) (W : World) : Prop where
 grown : W0.grownBy W (some R)
 cnt : W.heap[R]? = some (.cells #[.int .i64 (f pre)] 3 (0, 0))
theorem LJ.own {α : Type} {W0 : World} {R : Nat} {f : List α -> Int} : OwnFrom W0.heap.size (fun pre W => LJ W0 R f pre W) := fun s X Y row hs hg hr => by
 obtain ⟨h1, h2⟩ := hs;exact ⟨ypE h1 hg (fun r e => (hr r e).1), jI8 h2 hg (fun r e => (hr r e).2)⟩
theorem KN.putObj {W : World} {l : Nat} {o : Obj} (o' : Obj) (ho : W.heap[l]? = some o) (hc : o.isCells = false) : KN W (W.putObj l o') :=
 ⟨by simp, fun k cs fz hk => (World.putObj_heap_other (fun e => by subst e; rw [ho] at hk; cases hk; cases hc)).trans hk⟩
def j6I : PG -> Nat
 | [] => 0
 | x :: r => zF0 x.2.t + j6I r
theorem zmr {W0 W wz : World} {R l0 n0 : Nat} {f : List TE -> Int} {pre' : List TE} {cnt cnt' : Int} (hg : W0.grownBy W (some R)) (hr : W.heap[R]? = some (.cells #[.int .i64 cnt] 3 (0, 0))) (hz : wz.heap[R]? = some (.cells #[.int .i64 cnt] 3 (0, 0))) (hf : f pre' = cnt')
    (hW : Wr (fun b => b = R) W (wz.setCell ⟨R, 0, none⟩ (.int .i64 cnt'))) (hl : R < l0) (hn : n0 <= R) :
    KeepsFrom l0 W (wz.setCell ⟨R, 0, none⟩ (.int .i64 cnt')) /\ (Below n0 W (wz.setCell ⟨R, 0, none⟩ (.int .i64 cnt')) /\ KeepsT (fun _ => false) W (wz.setCell ⟨R, 0, none⟩ (.int .i64 cnt'))) /\ LJ W0 R f pre' (wz.setCell ⟨R, 0, none⟩ (.int .i64 cnt')) := by
 have hgW : W.grownBy (wz.setCell ⟨R, 0, none⟩ (.int .i64 cnt')) (some R) := ⟨hW.os, hW.tape, hW.output, hW.size, fun i hi hn => hW.block i hi (fun e => hn (by rw [e]))⟩;refine ⟨⟨hW.size, fun k o hB hk _ => (hW.block k (g_ hk).1 (fun e => by omega)).trans hk⟩, ⟨⟨hW.os, hW.tape, hW.output, hW.size, fun k hk => ?_⟩, KeepsT.of_grown hgW (fun j o e ho => ?_)⟩, ⟨z8o hg hgW, ?_⟩⟩
 . have hlt := (g_ hr).1;exact hW.block k (by omega) (fun e => by omega)
 . cases e;rw [hr] at ho;cases ho;rfl
 . rw [hf];exact ysv hz 0 _
structure LV (W0 : World) (R : Nat) (v : Bool) (W : World) : Prop where
 grown : W0.grownBy W (some R)
 row : W.heap[R]? = some (.cells #[v] 4 (0, 0))
theorem LV.own {W0 : World} {R B : Nat} {v : Bool} (hB : W0.heap.size <= B) {X Y : World} {row : Option Nat} (hs : LV W0 R v X) (hg : X.grownBy Y row) (hr : ∀ r, row = some r -> B <= r /\ ∃ o : Obj, X.heap[r]? = some o /\ o.isCells = false) : LV W0 R v Y :=
 ⟨ypE hs.grown hg (fun r e => Nat.le_trans hB (hr r e).1), jI8 hs.row hg (fun r e => (hr r e).2)⟩
theorem LV.refl {W : World} {R : Nat} {v : Bool} (h : W.heap[R]? = some (.cells #[v] 4 (0, 0))) : LV W R v W := ⟨⟨rfl, rfl, rfl, Nat.le_refl _, fun _ _ _ => rfl⟩, h⟩
theorem yK3 {fn : Func} {p : Tmp} {t1 : TypeId} (h : fn.results = #[.cell p t1]) (tmps : Array Value) (w : World) (b1 : Nat) (u : Value) (hp : tmps.getD p undef = v_ b1)
    (l1 : (loadVar t1 ⟨b1, 0, none⟩).run Tryz.prog w = .ok u w) : (results fn tmps).run Tryz.prog w = .ok u w := by
 have hp' : tmps[p]?.getD undef = v_ b1 := (by simpa using hp);simp [results, h, hp', asAddr, l1]
theorem jQf (w : World) (b : Nat) (u : Value) (h : w.cell? ⟨b, 0, none⟩ = some u) : (loadVar 4 ⟨b, 0, none⟩).run Tryz.prog w = .ok u w := by go_simp
end
section
open Go.RowKit Go.Sort
theorem yIj : copyT lostT = lostT := by
 have h : oneX 0 = 0 := (yrW 0).2 rfl;simp only [lostT, copyT, jEz, h]
theorem y0h (cG : Ad -> Ad × Bool) (aG : ArT -> ArT × Bool) (k o : Int) (x : Nat) (s : ByteArray) (b : Bool) (f : Int) (r q : RefT) (l : List NodeT) : yip cG aG (.mk k o (oneX x) s b f r q (jEz l)) = copyT (yip cG aG (.mk k o x s b f r q l)) := by
 rw [yip, yip];by_cases h5 : k = 5
 . rw [if_pos h5, if_pos h5];by_cases h : (cG r.a).2 = true
   . rw [if_pos h, if_pos h]; rfl
   . rw [if_neg h, if_neg h, yIj]
 . rw [if_neg h5, if_neg h5];by_cases h6 : k = 6
   . rw [if_pos h6, if_pos h6];by_cases h : (aG (arOf r q)).2 = true
     . rw [if_pos h, if_pos h]; rfl
     . rw [if_neg h, if_neg h, yIj]
   . rw [if_neg h6, if_neg h6]; rfl
mutual
theorem y7n (cG : Ad -> Ad × Bool) (aG : ArT -> ArT × Bool) : ∀ t : NodeT, jNY cG aG (copyT t) = copyT (jNY cG aG t)
 | .mk k o x s b f r q l => by
  rw [copyT, jNY, jNY, jzG cG aG l, y0h]
theorem jzG (cG : Ad -> Ad × Bool) (aG : ArT -> ArT × Bool) : ∀ l : List NodeT, jWC cG aG (jEz l) = jEz (jWC cG aG l)
 | [] => rfl
 | t :: l => by rw [jEz, jWC, jWC, jEz, y7n cG aG t, jzG cG aG l]
end
def vA (x : ArT) : Bool := y8L x.a x.b && y8L x.c x.d && decide (x.a <= x.c) && decide (x.b <= x.d)
theorem zJx {x : ArT} (h : vA x = true) : (1 <= x.a /\ x.a <= x.c /\ x.c <= 256) /\ (1 <= x.b /\ x.b <= x.d /\ x.d <= 4096) := by
 unfold vA at h;simp only [Bool.and_eq_true, decide_eq_true_eq] at h;have v1 := yO7 h.1.1.1;have v2 := yO7 h.1.1.2;omega
theorem zDL {a b : Int} (h : 1 <= a /\ a <= 256 /\ 1 <= b /\ b <= 4096) : y8L a b = true := by
 unfold y8L; simp; omega
structure RoadV (cG : Ad -> Ad × Bool) (aG : ArT -> ArT × Bool) : Prop where
 cell : ∀ a, y8L a.1 a.2 = true -> (cG a).2 = true -> y8L (cG a).1.1 (cG a).1.2 = true
 area : ∀ x, vA x = true -> (aG x).2 = true -> vA (aG x).1 = true
theorem j2I (r : RefT) : refB r r = true := by unfold refB; simp
theorem yfj (ins : Bool) : yG3 lostT ins = 0 := by cases ins <;> kernel_rfl
theorem zNy {o : Int} {x : Nat} {s : ByteArray} {b : Bool} {f : Int} {r q r' : RefT} {l : List NodeT} (h : zGb (.mk 5 o x s b f r q l) = true) : l = [] /\ zGb (.mk 5 o x s b f r' q l) = true := by
 simp only [zGb, Int.reduceEq, if_false, if_true] at *;simp only [Bool.and_eq_true, zmd, NodeT.kind, NodeT.op, NodeT.x, NodeT.s, NodeT.b, NodeT.f, NodeT.ref, NodeT.to] at *;refine ⟨List.length_eq_zero_iff.1 (by have := h.1.2; simp at this; omega), ⟨h.1, ?_⟩⟩;exact ⟨⟨h.2.1.1, j2I _⟩, h.2.2⟩
theorem zby {o : Int} {x : Nat} {s : ByteArray} {b : Bool} {f : Int} {r q r' q' : RefT} {l : List NodeT} (h : zGb (.mk 6 o x s b f r q l) = true) : l = [] /\ zGb (.mk 6 o x s b f r' q' l) = true := by
 simp only [zGb, Int.reduceEq, if_false, if_true] at *;simp only [Bool.and_eq_true, zmd, NodeT.kind, NodeT.op, NodeT.x, NodeT.s, NodeT.b, NodeT.f, NodeT.ref, NodeT.to] at *;refine ⟨List.length_eq_zero_iff.1 (by have := h.1.2; simp at this; omega), ⟨h.1, ?_⟩⟩;exact ⟨⟨h.2.1.1, j2I _⟩, j2I _⟩
theorem zcJ {k o : Int} {x : Nat} {s : ByteArray} {b : Bool} {f : Int} {r q : RefT} {l l' : List NodeT} (hl : l'.length = l.length) (h : zGb (.mk k o x s b f r q l) = true) : zGb (.mk k o x s b f r q l') = true := by
 unfold zGb at *;simp only [zmd, NodeT.kind, NodeT.op, NodeT.x, NodeT.s, NodeT.b, NodeT.f, NodeT.ref, NodeT.to, hl] at *;exact h
mutual
theorem yWK {cG : Ad -> Ad × Bool} {aG : ArT -> ArT × Bool} (H : RoadV cG aG) : ∀ (t : NodeT) (ins : Bool), yG3 t ins = 0 -> yG3 (jNY cG aG t) ins = 0 /\ zAv (jNY cG aG t) = zAv t
 | .mk k o x s b f r q l, ins, h => by
  rw [yG3] at h;by_cases hm : zGb (.mk k o x s b f r q l) = true
  . rw [if_pos hm] at h;rw [jNY, yip];by_cases h5 : k = 5
    . subst h5;rw [if_pos (by rfl)] at h;obtain ⟨rfl, hm'⟩ := zNy (r' := ⟨(cG r.a).1, r.cf, r.rf⟩) hm;rw [if_pos rfl, jWC];by_cases ho : (cG r.a).2 = true
      . rw [if_pos ho];have hv : y8L r.a.1 r.a.2 = true := by
         by_cases hv : y8L r.a.1 r.a.2 = true
         . exact hv
         . rw [if_neg hv] at h; omega
        refine ⟨?_, rfl⟩;rw [yG3, if_pos hm', if_pos (by rfl), if_pos (H.cell _ hv ho), ziB]
      . rw [if_neg ho];exact ⟨yfj ins, rfl⟩
    . rw [if_neg (by simpa using h5)] at h;rw [if_neg h5];by_cases h6 : k = 6
      . subst h6;rw [if_pos (by rfl)] at h;obtain ⟨rfl, hm'⟩ := zby (r' := ⟨((aG (arOf r q)).1.a, (aG (arOf r q)).1.b), r.cf, r.rf⟩) (q' := ⟨((aG (arOf r q)).1.c, (aG (arOf r q)).1.d), q.cf, q.rf⟩) hm;rw [if_pos rfl, jWC];by_cases ho : (aG (arOf r q)).2 = true
        . rw [if_pos ho];have hv : (y8L r.a.1 r.a.2 && y8L q.a.1 q.a.2 && decide (r.a.1 <= q.a.1) && decide (r.a.2 <= q.a.2)) = true := by
           by_cases hv : (y8L r.a.1 r.a.2 && y8L q.a.1 q.a.2 && decide (r.a.1 <= q.a.1) && decide (r.a.2 <= q.a.2)) = true
           . exact hv
           . rw [if_neg hv] at h; omega
          rw [if_pos hv] at h;refine ⟨?_, rfl⟩;have hv' := H.area (arOf r q) hv ho;rw [yG3, if_pos hm', if_neg (by decide), if_pos (by rfl), if_pos (show (y8L _ _ && y8L _ _ && decide _ && decide _) = true from hv')];cases ins
          . exact h
          . rfl
        . rw [if_neg ho];exact ⟨yfj ins, rfl⟩
      . rw [if_neg (by simpa using h6)] at h;rw [if_neg h6];have hlen : (jWC cG aG l).length = l.length := yQX cG aG l;have hm' := zcJ (l' := jWC cG aG l) hlen hm;have hL : ziB l (k == 9) = 0 := by
         split at h
         . split at h
           . split at h
             . omega
             . split at h
               . omega
               . exact h
           . omega
         . exact h
        obtain ⟨q1, q2⟩ := jcg H l (k == 9) hL;constructor
        . rw [yG3, if_pos hm', if_neg (by simpa using h5), if_neg (by simpa using h6), hlen, q1];rw [hL] at h;exact h
        . rw [zAv, zAv, q2]
  . rw [if_neg hm] at h; omega
theorem jcg {cG : Ad -> Ad × Bool} {aG : ArT -> ArT × Bool} (H : RoadV cG aG) : ∀ (l : List NodeT) (c : Bool), ziB l c = 0 -> ziB (jWC cG aG l) c = 0 /\ ∀ n d, jHU (jWC cG aG l) n d = jHU l n d
 | [], _, _ => ⟨by rw [jWC, ziB], fun n d => by rw [jWC]⟩
 | t :: l, c, h => by
  rw [ziB] at h;split at h
  . rename_i e;obtain ⟨q1, q2⟩ := yWK H t c e;obtain ⟨q3, q4⟩ := jcg H l c h;constructor
    . rw [jWC, ziB, if_pos q1]; exact q3
    . intro n d;rw [jWC, jHU, jHU, q2]; exact q4 _ _
  . rename_i e; exact absurd h e
end
theorem zGq {cG : Ad -> Ad × Bool} {aG : ArT -> ArT × Bool} (H : RoadV cG aG) {t : NodeT} (h : ywH t = 0) : ywH (jNY cG aG t) = 0 := by
 obtain ⟨q1, q2⟩ := yWK H t false (jAT h);unfold ywH at *;rw [q2, q1];split at h
 . omega
 . rename_i e1;rw [if_neg e1];split at h
   . omega
   . rename_i e2;rw [if_neg e2]
theorem zSB {cG : Ad -> Ad × Bool} {aG : ArT -> ArT × Bool} (H : RoadV cG aG) {c : ContT} (h : yQy c = true) : yQy (yFo cG aG (jNS c)) = true := by
 have h2 : yQy (jNS c) = true := (yuh c).trans h;unfold yFo;split
 . rename_i hk;unfold yQy at h2 ⊢;simp only [hk, Int.reduceBEq, Bool.false_eq_true, if_false, if_true, Bool.and_eq_true] at h2 ⊢;refine ⟨h2.1, ?_⟩;have h3 : ywH (jNS c).t = 0 := (by simpa using h2.2);have h4 : ywH (copyT (jNS c).t) = 0 := by
    have : copyT (jNS c).t = (jNS c).t := yM2 c.t;rw [this]; exact h3
   simpa using zGq H h4
 . exact h2
theorem zle (cG : Ad -> Ad × Bool) (aG : ArT -> ArT × Bool) (c : ContT) : (yFo cG aG c).kind = c.kind := by unfold yFo; split <;> rfl
theorem ym8 (cG : Ad -> Ad × Bool) (aG : ArT -> ArT × Bool) (c : ContT) : jNS (yFo cG aG (jNS c)) = yFo cG aG (jNS c) := by
 unfold yFo;split
 . show ContT.mk _ _ _ = ContT.mk _ _ _
   have e1 : copyT (jNY cG aG (copyT (jNS c).t)) = jNY cG aG (copyT (jNS c).t) := by
    rw [<- y7n, yM2]
   have e2 : ({ (jNS c).v with x := oneX (jNS c).v.x } : ValT) = (jNS c).v := by
    have := ydh c;exact congrArg ContT.v this
   simp only [e1, e2]
 . exact ydh c
def goP (cG : Ad -> Ad × Bool) (aG : ArT -> ArT × Bool) (l : PG) : PG := (l.filter fun x => (cG x.1).2).map fun x => ((cG x.1).1, yFo cG aG (jNS x.2))
theorem yXx {α : Type} {a : Ad} {v : α} : ∀ {M : List (Ad × α)}, (∀ x ∈ M, adLt x.1 a = true) -> setM a v M = M ++ [(a, v)]
 | [], _ => rfl
 | x :: r, h => by
  have h1 := h x List.mem_cons_self;have hne : ¬ x.1 = a := fun e => by rw [e, jZs] at h1; cases h1
  have hnl : ¬ adLt a x.1 = true := fun e => by
   have := swo_ad.trans _ _ _ h1 e;rw [jZs] at this; cases this
  rw [setM, if_neg hne, if_neg hnl, yXx (fun y hy => h y (List.mem_cons_of_mem _ hy))];rfl
theorem ycG (cG : Ad -> Ad × Bool) (aG : ArT -> ArT × Bool) (l : PG) (x : Ad × ContT) : goP cG aG (l ++ [x]) = if (cG x.1).2 = true then goP cG aG l ++ [((cG x.1).1, yFo cG aG (jNS x.2))] else goP cG aG l := by
 unfold goP;rw [List.filter_append];split <;> simp_all
end
section
open Go.RowKit Go.Sort Go.Maps Go.Shelf
theorem z7G (at_ n : Int) (gb mb : Nat) (M : GM) (w : World) (hG : GridIs w gb mb M) (hT : Tabs w) (hO : GOk (er M)) :
    Calls Tryz.prog 34 #[v_ gb, .int .i64 at_, .int .i64 n] w (BrR true at_ n M w) := by
 have HB := h_ (zE0 true at_ n gb mb M w hG hT hO);go_enter Tryz.func34, Tryz.ntmps34;go_wp2_with (first | (go_at_call 73; refine (HB.out).mono ?_; rintro e w1 ⟨hx, (⟨h1, rfl⟩ | ⟨h1, (⟨h2, rfl⟩ | ⟨h2, go, mo, Mo, rfl, h3⟩)⟩)⟩))
 . go_ret2
   exact ⟨hx, Or.inl ⟨h1, rfl⟩⟩
 . go_ret2
   exact ⟨hx, Or.inr ⟨h1, Or.inl ⟨h2, rfl⟩⟩⟩
 . go_ret2
   exact ⟨hx, Or.inr ⟨h1, Or.inr ⟨h2, go, mo, Mo, rfl, h3⟩⟩⟩
end
end Go.Proofs.YtdoeejhdenifpaaGreatDoor
