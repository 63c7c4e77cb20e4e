import Derived.Test.YtdoeejhdenifpaaGreatDoorB30
import Derived.Test.YtdoeejhdenifpaaGreatDoorB27
import Derived.Deep.RegionHeld3
set_option maxRecDepth 100000
set_option maxHeartbeats 16000000
namespace Go.Proofs.YtdoeejhdenifpaaGreatDoor
section
open Go.RowKit Go.Sort Go.Maps Go.Shelf Go.MapKept
attribute [local go_sem] Oper.semAt_some
structure DG (w : World) (rb : Nat) (l : List PI) : Prop where
 obj : ∃ v, r_ w rb #[v] 109 /\ PutsIn w v l
 sorted : yJ0 (pis l)
 many : l.length <= 4096
 small : ∀ x ∈ l, yQE x.c.t
theorem DG.cell {w : World} {rb : Nat} {l : List PI} (h : DG w rb l) : ∃ v, c_ w rb 0 v /\ PutsIn w v l :=
 let ⟨v, h1, h2⟩ := h.obj; ⟨v, by simp [World.cell?, h1], h2⟩
theorem DG.lt {w : World} {rb : Nat} {l : List PI} (h : DG w rb l) : rb < w.heap.size := let ⟨_, h1, _⟩ := h.obj; (g_ h1).1
theorem DG.xt {w w' : World} {rb : Nat} {l : List PI} (h : DG w rb l) (hx : Xt w w') : DG w' rb l :=
 ⟨let ⟨v, h1, h2⟩ := h.obj; ⟨v, (hx.block _ h.lt).trans h1, h2.xt hx⟩, h.sorted, h.many, h.small⟩
structure PosR (a : Ad) (l : List PI) (lo : Nat) (is : Bool) : Prop where
 le : lo <= l.length
 ahead : ∀ (j : Nat) (x : PI), l[j]? = some x -> (adLt x.a a = true ↔ j < lo)
 there : is = true ↔ ∃ x, l[lo]? = some x /\ x.a = a
theorem pis_lt {l : List PI} (h : yJ0 (pis l)) {i j : Nat} {x y : PI} (hx : l[i]? = some x) (hy : l[j]? = some y) (hij : i < j) : adLt x.a y.a = true := by
 have hp : l.Pairwise (fun x y => adLt x.a y.a = true) := by
  unfold yJ0 pis at h
  rwa [List.pairwise_map] at h
 have hi := (List.getElem?_eq_some_iff.1 hx);have hj := (List.getElem?_eq_some_iff.1 hy);obtain ⟨i1, e1⟩ := hi;obtain ⟨j1, e2⟩ := hj;have := List.pairwise_iff_getElem.1 hp i j i1 j1 hij;rw [e1, e2] at this;exact this
theorem zP7 (x a : Ad) : (orI (cmpI x.2 a.2) (cmpI x.1 a.1) < 0) ↔ adLt x a = true := by
 simp only [adLt, orI, cmpI, Bool.or_eq_true, Bool.and_eq_true, decide_eq_true_eq]
 repeat' split
 all_goals omega
theorem zvh {a b c : Ad} (h : adLt a b = true) (k : adLt b c = true) : adLt a c = true := by
 simp only [adLt, Bool.or_eq_true, Bool.and_eq_true, decide_eq_true_eq] at h k ⊢;omega
theorem y3S {l : List PI} (h : yJ0 (pis l)) {a : Ad} {k : Nat} {x : PI} (hx : l[k]? = some x) :
    (adLt x.a a = true -> ∀ (j : Nat) (y : PI), l[j]? = some y -> j < k + 1 -> adLt y.a a = true) /\ (¬ adLt x.a a = true -> ∀ (j : Nat) (y : PI), l[j]? = some y -> k <= j -> ¬ adLt y.a a = true) := by
 constructor
 . intro hl j y hy hj;by_cases e : j = k
   . subst e; rw [hx] at hy; cases hy; exact hl
   . exact zvh (pis_lt h hy hx (by omega)) hl
 . intro hl j y hy hj hc;by_cases e : j = k
   . subst e; rw [hx] at hy; cases hy; exact hl hc
   . exact hl (zvh (pis_lt h hx hy (by omega)) hc)
def zOC (a : Ad) (l : List PI) (w : World) (e : Ending) (w' : World) : Prop := ∃ (lo : Nat) (is : Bool), e = .returned (.tuple #[.int .i64 lo, .bool is]) /\ PosR a l lo is /\ Xt w w'
theorem juP {x : PI} {a : Ad} : (decide (x.a.1 = a.1) && decide (x.a.2 = a.2)) = true ↔ ∃ y, some x = some y /\ y.a = a := by
 rw [Bool.and_eq_true, decide_eq_true_eq, decide_eq_true_eq];constructor
 . exact fun h => ⟨x, rfl, Prod.ext h.1 h.2⟩
 . rintro ⟨y, e, rfl⟩;cases e;exact ⟨rfl, rfl⟩
theorem yCp (rb : Nat) (l : List PI) (a : Ad) (w : World) (h : DG w rb l) :
    Calls Tryz.prog 66 #[v_ rb, .agg #[a.1, a.2]] w (zOC a l w) := by
 obtain ⟨v, hc, hP⟩ := h.cell;obtain ⟨la, lc, rfl, hlc, hlc2⟩ := hP.shape;have hm := h.many;have HS := h_ h.sorted;obtain ⟨B, hB⟩ := e_ w.heap.size;obtain ⟨w0, hw0⟩ := e_ (w.alloc (.cells #[a.1, a.2] 24));have HX0 : Hid (Xt w w0) := (by unfold Hid; rw [<- hw0]; exact (Xt.refl _).alloc _);have HR0 : Hid (r_ w0 B #[a.1, a.2] 24) := (by unfold Hid; rw [<- hw0, <- hB]; exact (a_ w _).1);have HP := h_ (hP.xt HX0.out);have HC := h_ (HX0.out.cellsIn _ _ _ hc);have hc0 := HC.out;clear h hc hP;go_enter Tryz.func66, Tryz.ntmps66;go_wp2_with fail
 go_loopw [6, 7, 8] (fun s6 s7 s8 wr => ∃ lo hi : Nat, lo <= hi /\ hi <= l.length /\ s6 = .int .i64 lo /\ s7 = .int .i64 hi /\ Hid (∀ (j : Nat) (x : PI), l[j]? = some x -> j < lo -> adLt x.a a = true) /\ Hid (∀ (j : Nat) (x : PI), l[j]? = some x -> hi <= j -> ¬ adLt x.a a = true) /\ Hid (Xt w0 wr)) (fun s6 s7 _ _ => (intOf s7 - intOf s6).toNat)
 case atStart => exact ⟨0, l.length, by omega, by omega, rfl, rfl, (fun j x _ hj => by omega), (fun j x hx hj => by have := (List.getElem?_eq_some_iff.1 hx).1; omega), Xt.refl _⟩
 case round =>
  obtain ⟨lo, hi, hlh, hhl, rfl, rfl, HLO, HHI, HX⟩ := hrel;by_cases hlt : lo < hi
  . obtain ⟨k, hk⟩ := e_ ((lo + hi) / 2);have hkl : k < l.length := (by omega);have hadd : IntKind.i64.wrap ((lo : Int) + (hi : Int)) = ((lo + hi : Nat) : Int) := (by rw [IntKind.wrap_i64]; omega);have hquo : IntKind.i64.wrap (Int.tdiv ((lo + hi : Nat) : Int) 2) = (k : Int) := by
     rw [<- hk, Int.tdiv_eq_ediv_of_nonneg (by omega), IntKind.wrap_i64]; omega
    have hb1 : ((lo : Int) < (hi : Int)) := (by omega);have hk2 : ((lo : Int) + (hi : Int)) / 2 = (k : Int) := (by omega);obtain ⟨x, hx⟩ : ∃ x, l[k]? = some x := ⟨l[k], j_ hkl⟩;obtain ⟨b, off, rfl, q0, q1, _, _⟩ := HP.out.at hx;obtain ⟨ov, hov⟩ := e_ (orI (cmpI x.a.2 a.2) (cmpI x.a.1 a.1));have HO := h_ (fun V => ybR x.a.1 x.a.2 a.1 a.2 V);rw [hov] at HO;have hord := zP7 x.a a;rw [hov] at hord;have HORD := h_ hord;have HX5 := h_ hx;have hkc : (k : Int) < (l.length : Int) := by omega
    have HF : Hid (∀ V, Xt wr V -> c_ V rb 0 (.slice (some ⟨b, off, none⟩) l.length lc) /\ c_ V b (off + k * 23) x.a.1 /\ c_ V b (off + k * 23 + 1) x.a.2 /\ c_ V B 0 a.1 /\ c_ V B 1 a.2) := h_ fun V hV => by
     have hc := (HX.out.trans hV).cellsIn;obtain ⟨u0, u1, _, _⟩ := zxi (rowX (HX.out.trans hV) HR0.out);exact ⟨hc _ _ _ HC.out, hc _ _ _ q0, hc _ _ _ q1, u0, u1⟩
    clear hov hord hx q0 q1 hk;go_upto_region 5 with fail;try simp only [hk2]
    have HXD : Hid (Xt wr wr.drew) := (Xt.refl wr).drew;refine wp_region_held_drew (S := fun V => Xt wr V) (by kernel_rfl) HXD.out (fun hHeld => ?_);refine tk HF.out 0 ?_;refine tk HF.out 1 ?_;refine tk HF.out 2 ?_;refine tk HF.out 3 ?_;refine tk HF.out 4 ?_;refine tk HF.out 5 ?_;refine tk HF.out 6 ?_;refine tk HF.out 7 ?_;refine tk HF.out 8 ?_;refine rdH 9 (fun K hK => ?_);go_simp;refine (HO.out _).mono ?_;rintro e w1 ⟨rfl, hg1⟩;replace HXD := h_ (HXD.out.trans hg1.xt);refine ko hK HXD.out fun hHe => ?_;clear hK K hg1;by_cases hl : adLt x.a a = true
    . have hb2 : ov < 0 := HORD.out.2 hl;have HL := h_ hl;clear hl;refine tk HF.out 10 ?_;refine z_ (by kernel_rfl) ?_ _;go_wp2_with fail;go_roundw
      case rel => exact ⟨k + 1, hi, by omega, by omega, by simp, rfl, (fun j y hy hj => (y3S HS.out HX5.out).1 HL.out j y hy hj), HHI.out, HX.out.trans HXD.out⟩
      case measure => simp [intOf]; omega
    . have hb2 : ¬ ov < 0 := fun h => hl (HORD.out.1 h);have HL := h_ hl;clear hl;refine tk HF.out 10 ?_;refine z_ (by kernel_rfl) ?_ _;go_wp2_with fail;go_roundw
      case rel => exact ⟨lo, k, by omega, by omega, rfl, by simp, HLO.out, (fun j y hy hj => (y3S HS.out HX5.out).2 HL.out j y hy hj), HX.out.trans HXD.out⟩
      case measure => simp [intOf]; omega
  . have hb1 : ¬ ((lo : Int) < (hi : Int)) := (by omega);obtain rfl : lo = hi := by omega
    have hah : ∀ (j : Nat) (x : PI), l[j]? = some x -> (adLt x.a a = true ↔ j < lo) := fun j x hx => ⟨fun h => by
     by_cases hj : j < lo
     . exact hj
     . exact absurd h (HHI.out j x hx (by omega)), fun h => HLO.out j x hx h⟩
    have HAH := h_ hah;clear hah;by_cases hln : lo < l.length
    . have hb2 : ((lo : Int) < (l.length : Int)) := (by omega);obtain ⟨x, hx⟩ : ∃ x, l[lo]? = some x := ⟨l[lo], j_ hln⟩;obtain ⟨b, off, rfl, q0, q1, _, _⟩ := HP.out.at hx;have HX5 := h_ hx;have HF : Hid (∀ V, Xt wr V -> c_ V rb 0 (.slice (some ⟨b, off, none⟩) l.length lc) /\ c_ V b (off + lo * 23) x.a.1 /\ c_ V b (off + lo * 23 + 1) x.a.2 /\ c_ V B 0 a.1 /\ c_ V B 1 a.2) := h_ fun V hV => by
       have hc := (HX.out.trans hV).cellsIn;obtain ⟨u0, u1, _, _⟩ := zxi (rowX (HX.out.trans hV) HR0.out);exact ⟨hc _ _ _ HC.out, hc _ _ _ q0, hc _ _ _ q1, u0, u1⟩
      clear hx q0 q1;go_upto_region 8 with fail;have HXD : Hid (Xt wr wr.drew) := (Xt.refl wr).drew;refine wp_region_held_drew (S := fun V => Xt wr V) (by kernel_rfl) HXD.out (fun hHeld => ?_);refine tk HF.out 0 ?_;refine tk HF.out 1 ?_;refine tk HF.out 2 ?_;refine tk HF.out 3 ?_;refine tk HF.out 4 ?_;refine tk HF.out 5 ?_;refine tk HF.out 6 ?_;refine tk HF.out 7 ?_;refine tk HF.out 8 ?_;refine tk HF.out 9 ?_;refine tk HF.out 10 ?_;refine tk HF.out 11 ?_;refine tk HF.out 12 ?_;refine tk HF.out 13 ?_;refine tk HF.out 14 ?_;refine tk HF.out 15 ?_;refine tk HF.out 16 ?_;refine tk HF.out 17 ?_;refine tkH 18 (.bool (decide (x.a.1 = a.1 /\ x.a.2 = a.2))) ?_ ?_
      . intro V hSw; obtain ⟨u0, u1, u2, u3, u4⟩ := HF.out V hSw; go_simp; (by_cases h1 : x.a.1 = a.1 <;> by_cases h2 : x.a.2 = a.2 <;> simp [h1, h2])
      try simp only [Act.put, nm]
      refine tk HF.out 19 ?_;refine tk HF.out 20 ?_;refine tk HF.out 21 ?_;refine z_ (by kernel_rfl) ?_ _;go_wp2_with fail;refine p_ (v := .tuple #[.int .i64 lo, .bool (decide (x.a.1 = a.1) && decide (x.a.2 = a.2))]) (by simp [results]) rfl ?_;unfold zOC;exact ⟨lo, _, rfl, ⟨by omega, HAH.out, by rw [HX5.out]; exact juP⟩, (HX0.out.trans HX.out).trans HXD.out⟩
    . have hb2 : ¬ ((lo : Int) < (l.length : Int)) := (by omega);have HF : Hid (∀ V, Xt wr V -> V.cell? ⟨rb, 0, none⟩ = some (.slice la l.length lc)) := h_ fun V hV => (HX.out.trans hV).cellsIn _ _ _ HC.out;go_upto_region 8 with fail;have HXD : Hid (Xt wr wr.drew) := (Xt.refl wr).drew;refine wp_region_held_drew (S := fun V => Xt wr V) (by kernel_rfl) HXD.out (fun hHeld => ?_);refine tk HF.out 0 ?_;refine tk HF.out 1 ?_;refine tk HF.out 2 ?_;refine tk HF.out 3 ?_;refine tk HF.out 4 ?_;refine tk HF.out 5 ?_;refine tk HF.out 6 ?_;refine tk HF.out 7 ?_;refine tk HF.out 8 ?_;refine sk 9 ?_;refine sk 10 ?_;refine sk 11 ?_;refine sk 12 ?_;refine sk 13 ?_;refine sk 14 ?_;refine sk 15 ?_
      refine sk 16 ?_;refine sk 17 ?_;refine sk 18 ?_;refine tk HF.out 19 ?_;refine tk HF.out 20 ?_;refine tk HF.out 21 ?_;refine z_ (by kernel_rfl) ?_ _;go_wp2_with fail;refine p_ (v := .tuple #[.int .i64 lo, .bool false]) (by simp [results]) rfl ?_;unfold zOC;refine ⟨lo, false, rfl, ⟨by omega, HAH.out, ?_⟩, (HX0.out.trans HX.out).trans HXD.out⟩;rw [List.getElem?_eq_none (by omega)];simp
end
section
open Go.RowKit Go.Sort Go.Maps Go.Shelf Go.MapKept
theorem zED (x : PI) : (inC1 x).length = 23 := rfl
theorem yUo (x : PI) : ∀ u ∈ inC1 x, u.oneCell' = true := by
 intro u hu;simp only [inC1, List.mem_cons, List.not_mem_nil, or_false] at hu;rcases hu with h | h | h | h | h | h | h | h | h | h | h | h | h | h | h | h | h | h | h | h | h | h | h <;> subst h <;> rfl
structure PutsG (w : World) (base : Nat) (v : Value) (l : List PI) : Prop where
 own : OwnL w base 70 23 inC1 v l
 args : ∀ x ∈ l, x.c.ok /\ ∃ n, ArgsS (fun b => v.ownBlock ≠ some b) w n (.slice x.p x.c.t.args.length x.cap) x.c.t.args
theorem PutsG.nil (w : World) (base : Nat) : PutsG w base (.slice none 0 0) [] := ⟨World.ownsRow_nil _ _ _ _, fun x hx => by cases hx⟩
theorem PutsG.puts {w : World} {base : Nat} {v : Value} {l : List PI} (h : PutsG w base v l) : PutsIn w v l :=
 ⟨h.own.sl zED, fun x hx => let ⟨h1, n, hn⟩ := h.args x hx; ⟨h1, n, hn.args⟩⟩
theorem PutsG.xt {w w' : World} {base : Nat} {v : Value} {l : List PI} (h : PutsG w base v l) (hx : Xt w w') : PutsG w' base v l :=
 ⟨h.own.xt hx, fun x hx' => let ⟨h1, n, hn⟩ := h.args x hx'; ⟨h1, n, hn.keep (fun _ hb _ => hb) (fun b o _ hl => (hx.cells).1 b o hl)⟩⟩
theorem PutsG.base {w : World} {base : Nat} {v : Value} {l : List PI} (h : PutsG w base v l) : ∀ g, v.ownBlock = some g -> base <= g /\ g < w.heap.size := fun g hg => World.ownsRow.lt h.own g hg
theorem PutsIn.ahead {w : World} {v : Value} {l : List PI} (h : PutsIn w v l) {S : Nat -> Prop} (hS : ∀ b, b < w.heap.size -> S b) : ∀ x ∈ l, x.c.ok /\ ∃ n, ArgsS S w n (.slice x.p x.c.t.args.length x.cap) x.c.t.args := fun x hx =>
 let ⟨h1, n, hn⟩ := h.args x hx; ⟨h1, n, hn.toS.keep (fun b hb _ => hS b hb) (fun _ _ _ _ => rfl)⟩
theorem PutsIn.old {w W : World} {v v' : Value} {l : List PI} (h : PutsIn w v l) (hx : Xt w W) (hv : ∀ g, v'.ownBlock = some g -> w.heap.size <= g) : ∀ x ∈ l, x.c.ok /\ ∃ n, ArgsS (fun b => v'.ownBlock ≠ some b) W n (.slice x.p x.c.t.args.length x.cap) x.c.t.args := fun x hx' =>
 let ⟨h1, n, hn⟩ := h.args x hx'; ⟨h1, n, hn.toS.keep (fun b hb _ e => by have := hv b e; omega) (fun b o _ hl => (hx.cells).1 b o hl)⟩
theorem ArgsIn.but {w w' : World} {rb : Nat} (hone : ∀ o u, w.cell? ⟨rb, o, none⟩ = some u -> o = 0) (hk : ∀ b o u, b ≠ rb -> w.cell? ⟨b, o, none⟩ = some u -> w'.cell? ⟨b, o, none⟩ = some u) : ∀ {n : Nat} {av : Value} {l : List NodeT}, ArgsIn w n av l -> ArgsIn w' n av l
 | 0, _, _, h => h
 | n + 1, _, _, h => by
  obtain ⟨a, cap, rfl, h1, h2, h3⟩ := h;refine ⟨a, cap, rfl, h1, h2, fun hne => ?_⟩;obtain ⟨b, off, rfl, hc⟩ := h3 hne;refine ⟨b, off, rfl, fun k t ht => ?_⟩;obtain ⟨av', hcell, hin⟩ := hc k t ht;have hb : b ≠ rb := fun e => by
   subst e;have e1 := hone _ _ (hcell 1 _ rfl);omega
  exact ⟨av', fun i u hu => hk _ _ _ hb (hcell i u hu), hin.but hone hk⟩
theorem PutsIn.but {w w' : World} {rb : Nat} {v : Value} {l : List PI} (h : PutsIn w v l) (hone : ∀ o u, w.cell? ⟨rb, o, none⟩ = some u -> o = 0) (hk : ∀ b o u, b ≠ rb -> w.cell? ⟨b, o, none⟩ = some u -> w'.cell? ⟨b, o, none⟩ = some u) : PutsIn w' v l := by
 refine ⟨?_, fun x hx => let ⟨h1, n, hn⟩ := h.args x hx; ⟨h1, n, hn.but hone hk⟩⟩;obtain ⟨a, cap, rfl, h1, h2, h3⟩ := h.sl;refine ⟨a, cap, rfl, h1, h2, fun hne => ?_⟩;obtain ⟨b, off, rfl, hc⟩ := h3 hne;have hb : b ≠ rb := fun e => by
  subst e;obtain ⟨x, r, rfl⟩ := List.exists_cons_of_ne_nil hne;have e1 := hone _ _ (hc 0 x rfl 1 _ rfl);omega
 exact ⟨b, off, rfl, fun j x hx i u hu => hk _ _ _ hb (hc j x hx i u hu)⟩
theorem yKI {w : World} {a : Option Addr} {m cap : Nat} {l : List PI} {ad : Addr} (h : SlOf w inC1 23 (.slice a m cap) l) (ha : a = some ad) (hl : l ≠ []) : ∀ j u, (l.flatMap inC1)[j]? = some u -> w.cell? (ad.add j) = some u := by
 obtain ⟨a', c', e, q1, q2, hc⟩ := h;cases e;obtain ⟨b, off, e2, hcell⟩ := hc hl;rw [ha] at e2;cases e2;intro j u hu;rw [Addr.add_lit];have hj : j < l.length * 23 := (by have := (List.getElem?_eq_some_iff.1 hu).1; rwa [yzv zED] at this);have hi : j % 23 < 23 := Nat.mod_lt _ (by decide);have hd : j / 23 < l.length := (by omega);have e3 : j / 23 * 23 + j % 23 = j := (by omega);have hf := zLf zED l (j / 23) (j % 23) l[j / 23] (j_ hd) hi;rw [e3, hu] at hf;have := hcell (j / 23) l[j / 23] (j_ hd) (j % 23) u hf.symm
 rwa [Nat.add_assoc, e3] at this
theorem yNc {w : World} {v : Value} {n : Nat} {xs : List Value} {base : Nat} (h : w.ownsRow base 70 23 v n xs) (a : Option Addr) (c : Nat) (ty : TypeId) : (Builtin.append_ #[22, 22] ty #[v, .slice a 0 c]).run Tryz.prog w = .ok v w := by
 obtain ⟨i0, hi, hz0, hz1, hz2⟩ := info_parts jwJ;rcases h.2 with ⟨rfl, h0⟩ | ⟨g, cap, cur, rfl, hbg, hg, hn, hcm, hs, ht⟩
 . cases a <;> simp [Builtin.append_, run_underlying Tryz.underlying22, sizeOf, typeInfo, hi, Builtin.lenOf, Builtin.firstCells, loadCells, loadCellsFrom]
 . cases a <;> simp [Builtin.append_, run_underlying Tryz.underlying22, sizeOf, typeInfo, hi, Builtin.lenOf, Builtin.firstCells, hn, storeCells, loadCells, loadCellsFrom]
theorem PutsG.push {w : World} {base : Nat} {v u : Value} {l1 l2 : List PI} (h : PutsG w base v l1) (hb : base <= w.heap.size) (hu : SlOf w inC1 23 u l2) (hok : ∀ x ∈ l2, x.c.ok /\ ∃ n, ArgsS (fun b => v.ownBlock ≠ some b) w n (.slice x.p x.c.t.args.length x.cap) x.c.t.args) (hl : l1.length + l2.length <= 1048576) (ty : TypeId) :
    ∃ v' w', (Builtin.append_ #[22, 22] ty #[v, u]).run Tryz.prog w = .ok v' w' /\ PutsG w' base v' (l1 ++ l2) /\ w.grownBy w' v.ownBlock := by
 obtain ⟨i0, hi, hz0, hz1, hz2⟩ := info_parts jwJ;have hu2 := hu;obtain ⟨a, c, rfl, q1, q2, hc⟩ := hu2;by_cases hne : l2 = []
 . subst hne;refine ⟨v, w, yNc h.own a c ty, by rw [List.append_nil]; exact h, ⟨rfl, rfl, rfl, Nat.le_refl _, fun _ _ _ => rfl⟩⟩
 . obtain ⟨b, off, rfl, hcell⟩ := hc hne;have hnews := yKI hu rfl hne;have hlen : (l2.flatMap inC1).length = l2.length * 23 := yzv zED l2;have ho : ∀ u ∈ l2.flatMap inC1, u.oneCell' = true := by
    intro u hu;obtain ⟨x, _, hx⟩ := List.mem_flatMap.1 hu;exact yUo x u hx
   have hbase0 : w.ownsRow 0 70 23 v l1.length (l1.flatMap inC1) := h.own.base (Nat.zero_le _);obtain ⟨v', w', hr, _, _, hwh⟩ := jrS (P := Tryz.prog) w 22 ty 70 i0 _ 23 200 Tryz.underlying22 hi hz0 hz1 hz2 rfl (by decide) v l1.length (l1.flatMap inC1) hbase0 _ l2.length c (l2.flatMap inC1) hlen hnews ho (by unfold maxLen; omega) (by omega);obtain ⟨v2, w2, hr2, hown2, hg2, _⟩ := run_append_own (P := Tryz.prog) w base 22 ty 70 i0 _ 23 200 Tryz.underlying22 hi hz0 hz1 hz2 rfl (by decide) v l1.length (l1.flatMap inC1) h.own _ l2.length c (l2.flatMap inC1) hlen hnews ho (by unfold maxLen; omega) (by omega) hb;rw [hr] at hr2;cases hr2
   have hS : ∀ b, b < w.heap.size -> (v.ownBlock ≠ some b) -> (v'.ownBlock ≠ some b) := fun b hlt hb e => by
    rcases hwh with e' | e'
    . rw [e'] at e; exact hb e
    . have := e' b e; omega
   have hk : ∀ b o, (v.ownBlock ≠ some b) -> b < w.heap.size -> w'.cell? ⟨b, o, none⟩ = w.cell? ⟨b, o, none⟩ := fun b o hb hlt => d_ (w := w) (a := ⟨b, o, none⟩) (hg2.block b hlt (fun e => hb e.symm));refine ⟨v', w', hr, ⟨?_, fun y hy => ?_⟩, hg2⟩
   . unfold OwnL;rw [List.flatMap_append, List.length_append];exact hown2
   . rcases List.mem_append.1 hy with h1 | h1
     . obtain ⟨k1, n, hn⟩ := h.args y h1;exact ⟨k1, n, hn.keep (fun b hb hlt => hS b hlt hb) hk⟩
     . obtain ⟨k1, n, hn⟩ := hok y h1;exact ⟨k1, n, hn.keep (fun b hb hlt => hS b hlt hb) hk⟩
section
variable {α : Type} {enc : α -> List Value} {k : Nat} {T : TypeId}
theorem zVu {w : World} {a : Option Addr} {n cap : Nat} {l : List α} {S : TypeId} (hS : Tryz.prog.underlying S = some (.slice (Tryz.prog.elem S))) (hE : Tryz.prog.elem S = T) (hz : ∀ w, (sizeOf T).run Tryz.prog w = .ok k w) (h : SlOf w enc k (.slice a n cap) l) (j : Nat) (hj : j <= l.length) :
    ∃ a', (∀ W, (Instr.slice S (.slice a n cap) none (some (.int .i64 (j : Int))) none).run Tryz.prog W = .ok (.slice a' j cap) W) /\ SlOf w enc k (.slice a' j cap) (l.take j) := by
 obtain ⟨a0, c0, e, q1, q2, hc⟩ := h;cases e;have htl : (l.take j).length = j := (by rw [List.length_take]; omega);have hrun : ∀ W, (Instr.slice S (.slice a l.length cap) none (some (.int .i64 (j : Int))) none).run Tryz.prog W = .ok (sliced a 0 j cap k) W := fun W => by
  rw [run_slice_h W S a l.length cap hS .i64 j (by omega) (by omega), hE, hz];simp
 obtain ⟨a', ha', hsame⟩ : ∃ a', sliced a 0 j cap k = .slice a' j cap /\ ∀ b off, a = some ⟨b, off, none⟩ -> a' = some ⟨b, off, none⟩ := by
  refine ⟨_, rfl, fun b off e => ?_⟩;subst e;simp [Addr.add_lit]
 refine ⟨a', fun W => by rw [hrun, ha'], a', cap, by rw [htl], by omega, q2, fun hne => ?_⟩;have hl : l ≠ [] := (by intro e; subst e; simp at hne);obtain ⟨b, off, e, hcell⟩ := hc hl;refine ⟨b, off, hsame b off e, fun t x hx i u hu => ?_⟩;rw [List.getElem?_take] at hx;split at hx
 . exact hcell t x hx i u hu
 . cases hx
theorem zBo {w : World} {a : Option Addr} {n cap : Nat} {l : List α} {S : TypeId} (hS : Tryz.prog.underlying S = some (.slice (Tryz.prog.elem S))) (hE : Tryz.prog.elem S = T) (hz : ∀ w, (sizeOf T).run Tryz.prog w = .ok k w) (h : SlOf w enc k (.slice a n cap) l) (j : Nat) (hj : j <= l.length) :
    ∃ a' c', (∀ W, (Instr.slice S (.slice a n cap) (some (.int .i64 (j : Int))) none none).run Tryz.prog W = .ok (.slice a' (l.length - j) c') W) /\ SlOf w enc k (.slice a' (l.length - j) c') (l.drop j) := by
 obtain ⟨a0, c0, e, q1, q2, hc⟩ := h;cases e;have hrun : ∀ W, (Instr.slice S (.slice a l.length cap) (some (.int .i64 (j : Int))) none none).run Tryz.prog W = .ok (sliced a j l.length cap k) W := fun W => by
  rw [run_slice_l W S a l.length cap hS .i64 j (by omega) (by omega), hE, hz];simp
 have hdl : (l.drop j).length = l.length - j := (by rw [List.length_drop]);refine ⟨_, cap - j, fun W => by rw [hrun]; rfl, _, cap - j, by rw [hdl], by omega, by omega, fun hne => ?_⟩;have hl : l ≠ [] := (by intro e; subst e; simp at hne);have hlt : j < l.length := by
  rcases Nat.lt_or_ge j l.length with h | h
  . exact h
  . exact absurd (List.drop_eq_nil_of_le h) hne
 obtain ⟨b, off, rfl, hcell⟩ := hc hl;refine ⟨b, off + j * k, ?_, fun t x hx i u hu => ?_⟩
 . rw [if_neg (by omega), Option.map_some, Addr.add_lit]
 . rw [List.getElem?_drop] at hx;have := hcell (j + t) x hx i u hu;rw [Nat.add_mul, <- Nat.add_assoc] at this;exact this
end
section
variable {α : Type}
theorem set_at {a : Ad} {v : α} : ∀ {M : List (Ad × α)} {lo : Nat}, yJ0 M -> (∀ j x, M[j]? = some x -> (adLt x.1 a = true ↔ j < lo)) -> lo <= M.length ->
    setM a v M = M.take lo ++ (a, v) :: M.drop (if (∃ x, M[lo]? = some x /\ x.1 = a) then lo + 1 else lo)
 | [], lo, _, _, hl => by
  have : lo = 0 := (by simpa using hl);subst this;simp [setM]
 | x :: r, 0, hs, h, _ => by
  have hx : ¬ adLt x.1 a = true := fun e => by have := (h 0 x rfl).1 e; omega
  rw [setM];by_cases e : x.1 = a
  . rw [if_pos e, if_pos ⟨x, rfl, e⟩]; rfl
  . have h2 : adLt a x.1 = true := by
     rcases jP0 x.1 a with q | q | q
     . exact absurd q e
     . exact absurd q hx
     . exact q
    rw [if_neg e, if_pos h2, if_neg (fun ⟨y, hy, e2⟩ => e (by cases hy; exact e2))]; rfl
 | x :: r, lo + 1, hs, h, hl => by
  have hx : adLt x.1 a = true := (h 0 x rfl).2 (by omega);have e : ¬ x.1 = a := fun e => by rw [e, jZs] at hx; cases hx
  have h2 : ¬ adLt a x.1 = true := fun q => by have := swo_ad.trans _ _ _ q hx; rw [jZs] at this; cases this
  rw [setM, if_neg e, if_neg h2, set_at (M := r) (lo := lo) (List.pairwise_cons.1 hs).2 (fun j y hy => (h (j + 1) y hy).trans ⟨fun q => by omega, fun q => by omega⟩) (by simpa using hl)];simp only [List.getElem?_cons_succ, List.take_succ_cons, List.cons_append];split <;> rfl
theorem del_at {a : Ad} : ∀ {M : List (Ad × α)} {lo : Nat}, yJ0 M -> (∀ j x, M[j]? = some x -> (adLt x.1 a = true ↔ j < lo)) -> lo <= M.length ->
    delM a M = M.take lo ++ M.drop (if (∃ x, M[lo]? = some x /\ x.1 = a) then lo + 1 else lo)
 | [], lo, _, _, hl => by
  have : lo = 0 := (by simpa using hl);subst this;simp [delM]
 | x :: r, 0, hs, h, _ => by
  have hx : ¬ adLt x.1 a = true := fun e => by have := (h 0 x rfl).1 e; omega
  have hall : ∀ y ∈ r, adLt x.1 y.1 = true := (List.pairwise_cons.1 hs).1;have hr : delM a r = r := by
   unfold delM;rw [List.filter_eq_self];intro y hy;have h1 := hall y hy;have : y.1 ≠ a := fun e2 => hx (e2 ▸ h1);simp [this]
  rw [delM, List.filter_cons];by_cases e : x.1 = a
  . have hex : ∃ y, (x :: r)[0]? = some y /\ y.1 = a := ⟨x, rfl, e⟩;rw [if_pos hex, if_neg (by simp [e])];exact hr
  . have hex : ¬ ∃ y, (x :: r)[0]? = some y /\ y.1 = a := fun ⟨y, hy, e2⟩ => e (by cases hy; exact e2);rw [if_neg hex, if_pos (by simp [e])]
    show x :: delM a r = _
    rw [hr]; rfl
 | x :: r, lo + 1, hs, h, hl => by
  have hx : adLt x.1 a = true := (h 0 x rfl).2 (by omega);have e : ¬ x.1 = a := fun e => by rw [e, jZs] at hx; cases hx
  have ih := del_at (M := r) (lo := lo) (List.pairwise_cons.1 hs).2 (fun j y hy => (h (j + 1) y hy).trans ⟨fun q => by omega, fun q => by omega⟩) (by simpa using hl);rw [delM, List.filter_cons];simp only [e, decide_false, Bool.not_false, if_true]
  show x :: delM a r = _
  rw [ih];simp only [List.getElem?_cons_succ, List.take_succ_cons, List.cons_append];split <;> rfl
theorem lk_at {a : Ad} {M : List (Ad × α)} {lo : Nat} (hs : yJ0 M) (h : ∀ j x, M[j]? = some x -> (adLt x.1 a = true ↔ j < lo)) :
    (∀ x, M[lo]? = some x -> x.1 = a -> lkM a M = some x.2) /\ ((¬ ∃ x, M[lo]? = some x /\ x.1 = a) -> lkM a M = none) := by
 constructor
 . intro x hx e;have hm := m_ hx;cases hl : lkM a M with
   | none => exact absurd e (lkM_none.1 hl x hm)
   | some v =>
    have hm2 := zL0 hl;obtain ⟨j, hj⟩ := List.mem_iff_getElem?.1 hm2;have h1 : ¬ j < lo := fun q => by have := (h j _ hj).2 q; rw [jZs] at this; cases this
    by_cases h2 : j = lo
    . subst h2; rw [hx] at hj; cases hj; rfl
    . exfalso;have hb := (List.getElem?_eq_some_iff.1 hx);have hb2 := (List.getElem?_eq_some_iff.1 hj);obtain ⟨p1, p2⟩ := hb;obtain ⟨p3, p4⟩ := hb2;have := List.pairwise_iff_getElem.1 hs lo j p1 p3 (by omega);rw [p2, p4, e, jZs] at this; cases this
 . intro hno;refine lkM_none.2 fun x hx e => hno ?_;obtain ⟨j, hj⟩ := List.mem_iff_getElem?.1 hx;have h1 : ¬ j < lo := fun q => by have := (h j _ hj).2 q; rw [e, jZs] at this; cases this
   have hlo : lo < M.length := (by have := (List.getElem?_eq_some_iff.1 hj).1; omega);have h2 : ¬ lo < j := fun q => by
    obtain ⟨p3, p4⟩ := List.getElem?_eq_some_iff.1 hj;have := List.pairwise_iff_getElem.1 hs lo j hlo p3 q;rw [p4, e] at this;have := (h lo _ (j_ hlo)).1 this;omega
   have : j = lo := (by omega);subst this;exact ⟨x, hj, e⟩
end
theorem PosR.plain {a : Ad} {l : List PI} {lo : Nat} {is : Bool} (h : PosR a l lo is) : (∀ j (x : Ad × ContT), (pis l)[j]? = some x -> (adLt x.1 a = true ↔ j < lo)) /\ ((∃ x, (pis l)[lo]? = some x /\ x.1 = a) ↔ is = true) := by
 refine ⟨fun j x hx => ?_, ?_⟩
 . unfold pis at hx;rw [List.getElem?_map] at hx;cases hy : l[j]? with
   | none => rw [hy] at hx; cases hx
   | some y => rw [hy] at hx; cases hx; exact h.ahead j y hy
 . rw [h.there];unfold pis;rw [List.getElem?_map];constructor
   . rintro ⟨x, hx, e⟩;cases hy : l[lo]? with
     | none => rw [hy] at hx; cases hx
     | some y => rw [hy] at hx; cases hx; exact ⟨y, rfl, e⟩
   . rintro ⟨x, hx, e⟩;rw [hx];exact ⟨(x.a, x.c), rfl, e⟩
theorem PosR.set {a : Ad} {l : List PI} {lo : Nat} {is : Bool} (h : PosR a l lo is) (hs : yJ0 (pis l)) (z : PI) (hz : z.a = a) : pis ((l.take lo ++ [z]) ++ l.drop (if is = true then lo + 1 else lo)) = setM a z.c (pis l) := by
 obtain ⟨h1, h2⟩ := h.plain;rw [set_at hs h1 (by unfold pis; rw [List.length_map]; exact h.le)];unfold pis at h2 ⊢;simp only [List.map_append, List.map_take, List.map_drop, List.map_cons, h2, hz, List.append_assoc, List.cons_append, List.nil_append]
theorem PosR.del {a : Ad} {l : List PI} {lo : Nat} {is : Bool} (h : PosR a l lo is) (hs : yJ0 (pis l)) : pis (l.take lo ++ l.drop (if is = true then lo + 1 else lo)) = delM a (pis l) := by
 obtain ⟨h1, h2⟩ := h.plain;rw [del_at hs h1 (by unfold pis; rw [List.length_map]; exact h.le)];unfold pis at h2 ⊢;simp only [List.map_append, List.map_take, List.map_drop, h2]
theorem PosR.look {a : Ad} {l : List PI} {lo : Nat} {is : Bool} (h : PosR a l lo is) (hs : yJ0 (pis l)) : (lkM a (pis l)).isSome = is /\ ∀ x, l[lo]? = some x -> is = true -> lkM a (pis l) = some x.c := by
 obtain ⟨h1, h2⟩ := h.plain;obtain ⟨k1, k2⟩ := lk_at hs h1;have key : ∀ x, l[lo]? = some x -> is = true -> lkM a (pis l) = some x.c := fun x hx hi => by
  obtain ⟨y, hy, e⟩ := h.there.1 hi;rw [hx] at hy;cases hy;exact k1 (x.a, x.c) (by unfold pis; rw [List.getElem?_map, hx]; rfl) e
 refine ⟨?_, key⟩;cases is with
 | true =>
  obtain ⟨y, hy, e⟩ := h.there.1 rfl;rw [key y hy rfl]; rfl
 | false =>
  rw [k2 (fun q => by have := h2.1 q; cases this)]; rfl
theorem zld (l : List PI) : (pis l).length = l.length := by simp [pis]
end
section
open Go.RowKit Go.Sort Go.Maps Go.Shelf
attribute [local go_sem] Oper.semAt_some
theorem Near.of_xt {B : Nat} {X Y : World} (h : Xt X Y) (hB : B <= X.heap.size) : Near B X Y := ⟨h.os, h.tape, h.output, h.size, fun k hk => h.block k (by omega), fun k => by
 by_cases hk : k < X.heap.size
 . exact Or.inl (h.block k hk)
 . refine Or.inr fun o u hu => ?_;have h1 : k < X.heap.size := b_ X _ hu
   omega⟩
theorem small2 {w : World} {k : Nat} {u v : Value} {T : TypeId} (h : w.heap[k]? = some (.cells #[u, v] T (0, 0))) : ∀ o x, w.cell? ⟨k, o, none⟩ = some x -> o <= 1 := fun o x hx => by
 have h2 : (#[u, v] : Array Value)[o]? = some x := (by simpa [World.cell?, h] using hx);have := (g_ h2).1;simp at this; omega
theorem yvQ (n b : Nat) (f : ArT) (w0 : World) (hr : w0.heap[b]? = some (.cells #[f.a, f.b, f.c, f.d] 26 (0, 0))) (hv : ygU f.a f.b f.c f.d = true) :
    jUo n Tryz.prog 79 #[v_ b] encA KC (fun _ x _ => inA f x = true) (fun xs => xs = y1i f) (fun pre => pre <+: y1i f) (zVW f (f.a, f.b)) w0 := fun l J Jx W hB hJ _ hY h0 => by
 have hx : Xt w0 W := hB;have HR := h_ (rowX hx hr);have HV := h_ hv;have hvb := zFS hv;have HY := h_ (fun pre x W1 hj ht hl => jB7 (m' := 9 - 1) (hY pre x W1 hj ⟨W1, hj, ht⟩ hl));have HJ := h_ (fun pre X Y (h : J pre X) (hx : Near W.heap.size X Y) => hJ pre X Y h hx);have HJ0 := h_ h0;have HVA := h_ (fun V => jwl f.a f.b f.c f.d V);rw [hv] at HVA;clear hY h0 hJ hr hx hB;refine callsIn_wide.2 ((callsIn_wide (n := 9)).1 ?_);have hf : Fence.wide.fn 40 := trivial;obtain ⟨⟨a0, a1, a2, a3⟩, _⟩ := jr0 HR.out;refine callsIn_of_wp Tryz.func79 rfl trivial ?_ rfl
 simp only [Tryz.ntmps79, List.size_toArray, List.length_cons, List.length_nil, Nat.reduceAdd, Nat.reduceSub, Array.replicate_succ, Array.replicate_zero, List.push_toArray, List.append_toArray, List.nil_append, List.cons_append]
 gi_wp2_with (first
  | (gi_at_call 40; refine ((callsIn_wide (n := 9 - 1)).2 (HVA.out _)).mono ?_; rintro e w1 ⟨rfl, hg1⟩; have HX1 : Hid (Xt W w1) := hg1.xt; obtain ⟨⟨b0, b1, b2, b3⟩, _⟩ := jr0 (rowX HX1.out HR.out); clear hg1))
 obtain ⟨w2, hw2⟩ := e_ (w1.alloc (.cells #[f.a, f.b] 24));have HX2 : Hid (Xt W w2) := (by unfold Hid; rw [<- hw2]; exact HX1.out.alloc _);have HK2 : Hid (r_ w2 w1.heap.size #[f.a, f.b] 24) := (by unfold Hid; rw [<- hw2]; exact (a_ w1 _).1);rw [hw2];clear hw2
 gi_loopw [3] (fun s3 wr => ∃ (k : Nat) (x y : Int) (pre : List Ad), s3 = v_ k /\ Hid (KC W wr) /\ Hid (J pre wr) /\ Hid (r_ wr k #[.int .i64 x, .int .i64 y] 24) /\ Hid (inA f (x, y) = true) /\ Hid (pre.length + zVW f (x, y) = zVW f (f.a, f.b)) /\ Hid (pre ++ zTp f (zVW f (x, y)) x y = y1i f) /\ W.heap.size <= k) (fun s3 wr => zVW f (atOf wr s3))
 case atStart =>
  exact ⟨w1.heap.size, f.a, f.b, [], rfl, KC.of_xt HX2.out, HJ.out _ _ _ HJ0.out (Near.of_xt HX2.out (Nat.le_refl _)), HK2, jpX HV.out (by simp only; omega), (by unfold Hid; simp), rfl, HX1.out.size⟩
 case round =>
  obtain ⟨k, x, y, pre, rfl, HK, HJp, HRk, HIN, HLF, HRS, hkb⟩ := hrel;have hin := yL5 HIN.out;simp only at hin;obtain ⟨k0, k1, kf0, kf1⟩ := zxi HRk.out;obtain ⟨⟨c0, c1, c2, c3⟩, _⟩ := jr0 (HK.out.same _ _ HR.out rfl);have hwx : IntKind.i64.wrap (x + 1) = x + 1 := ynw (by omega) (by omega);have hwy : IntKind.i64.wrap (y + 1) = y + 1 := ynw (by omega) (by omega);have hbk : k ≠ b := (by have := (g_ HR.out).1; omega);have hbk' : b ≠ k := fun e => hbk e.symm;obtain ⟨fn, tmps, assign, body, hy, hR⟩ := HY.out pre (x, y) wr HJp.out HIN.out (by have := HLF.out; have := jKe f (x, y); omega);dsimp only [encA, adW] at hy;by_cases hto : x = f.c /\ y = f.d
  . obtain ⟨rfl, rfl⟩ := hto
    gi_wp2
    refine hR.mono ?_;rintro e w3 (⟨rfl, hJ3, hk3⟩ | ⟨rfl, hJ3⟩)
    . have HJ3 := h_ hJ3;have HK3 := h_ hk3;obtain ⟨e0, e1, ef0, ef1⟩ := zxi (hk3.same _ _ HRk.out rfl);obtain ⟨⟨g0, g1, g2, g3⟩, _⟩ := jr0 ((HK.out.trans hk3).same _ _ HR.out rfl);clear hk3 hJ3 hR hy
      gi_wp2
      refine p_ (results_none rfl _ _ _) rfl ?_;exact ⟨⟨_, rfl⟩, Or.inl ⟨_, by have := HRS.out; rw [zgs] at this; exact this, HJ3.out⟩⟩
    . have HJ3 := h_ hJ3;clear hJ3 hR hy
      gi_wp2
      refine p_ (results_none rfl _ _ _) rfl ?_;exact ⟨⟨_, rfl⟩, Or.inr ⟨_, by have := HRS.out; rw [zgs] at this; exact y5l this, HJ3.out⟩⟩
  . by_cases hx : x = f.c
    . subst hx;have hy1 : y < f.d := (by omega);have hgt : f.c < f.c + 1 := (by omega);have hne : ¬ y = f.d := by omega
      gi_wp2
      refine hR.mono ?_;rintro e w3 (⟨rfl, hJ3, hk3⟩ | ⟨rfl, hJ3⟩)
      . have HJ3 := h_ hJ3;have HK3 := h_ hk3;obtain ⟨e0, e1, ef0, ef1⟩ := zxi (hk3.same _ _ HRk.out rfl);obtain ⟨⟨g0, g1, g2, g3⟩, _⟩ := jr0 ((HK.out.trans hk3).same _ _ HR.out rfl);clear hk3 hJ3 hR hy
        gi_wp2
        have HKW := h_ (HK.out.trans HK3.out);have hsm : ∀ o u, w3.cell? ⟨k, o, none⟩ = some u -> o <= 1 := small2 (HK3.out.same _ _ HRk.out rfl);have hb : Near W.heap.size w3 (((w3.setCell ⟨k, 0, none⟩ (Value.int .i64 (f.c + 1))).setCell ⟨k, 0, none⟩ (Value.int .i64 f.a)).setCell ⟨k, 1, none⟩ (Value.int .i64 (y + 1))) := (((Near.refl _ w3).setCell hkb hsm _).setCell hkb hsm _).setCell hkb hsm _;have hbA := hb.alloc (by have := hb.size; have := HKW.out.size; omega) (Obj.cells #[Value.int .i64 f.a, Value.int .i64 (y + 1)] 24);go_roundw
        case rel =>
         refine ⟨_, f.a, y + 1, pre ++ [(f.c, y)], rfl, ⟨Nat.le_trans HKW.out.size hbA.size, fun k o hk ho => ((hbA.block k (g_ hk).1).trans (HKW.out.same k o hk ho))⟩, HJ.out _ _ _ HJ3.out hbA, ?_, jpX HV.out (by simp only; omega), ?_, ?_, ?_⟩
         . unfold Hid; exact (by simpa using (a_ (((w3.setCell ⟨k, 0, none⟩ (Value.int .i64 (f.c + 1))).setCell ⟨k, 0, none⟩ (Value.int .i64 f.a)).setCell ⟨k, 1, none⟩ (Value.int .i64 (y + 1))) (Obj.cells #[Value.int .i64 f.a, Value.int .i64 (y + 1)] 24)).1)
         . have h1 := HLF.out;have h2 := zQj HIN.out rfl hy1;unfold Hid;rw [List.length_append, List.length_singleton];omega
         . have h1 := HRS.out;rw [zsd HIN.out hy1] at h1;unfold Hid; rw [<- h1]; simp
         . exact HKW.out.size
        case measure =>
         rw [jbK HRk.out, jbK (x := f.a) (y := y + 1) (T := 24) (by simpa using (a_ (((w3.setCell ⟨k, 0, none⟩ (Value.int .i64 (f.c + 1))).setCell ⟨k, 0, none⟩ (Value.int .i64 f.a)).setCell ⟨k, 1, none⟩ (Value.int .i64 (y + 1))) (Obj.cells #[Value.int .i64 f.a, Value.int .i64 (y + 1)] 24)).1)];have h2 := zQj HIN.out rfl hy1;omega
      . have HJ3 := h_ hJ3;clear hJ3 hR hy
        gi_wp2
        refine p_ (results_none rfl _ _ _) rfl ?_;exact ⟨⟨_, rfl⟩, Or.inr ⟨_, by have := HRS.out; rw [zsd HIN.out hy1] at this; exact y5l this, HJ3.out⟩⟩
    . have hx1 : x < f.c := (by omega);have hgt : ¬ f.c < x + 1 := by omega
      gi_wp2
      refine hR.mono ?_;rintro e w3 (⟨rfl, hJ3, hk3⟩ | ⟨rfl, hJ3⟩)
      . have HJ3 := h_ hJ3;have HK3 := h_ hk3;obtain ⟨e0, e1, ef0, ef1⟩ := zxi (hk3.same _ _ HRk.out rfl);obtain ⟨⟨g0, g1, g2, g3⟩, _⟩ := jr0 ((HK.out.trans hk3).same _ _ HR.out rfl);clear hk3 hJ3 hR hy
        gi_wp2
        have HKW := h_ (HK.out.trans HK3.out);have hsm : ∀ o u, w3.cell? ⟨k, o, none⟩ = some u -> o <= 1 := small2 (HK3.out.same _ _ HRk.out rfl);have hb : Near W.heap.size w3 (w3.setCell ⟨k, 0, none⟩ (Value.int .i64 (x + 1))) := (Near.refl _ w3).setCell hkb hsm _;have hbA := hb.alloc (by have := hb.size; have := HKW.out.size; omega) (Obj.cells #[Value.int .i64 (x + 1), Value.int .i64 y] 24);go_roundw
        case rel =>
         refine ⟨_, x + 1, y, pre ++ [(x, y)], rfl, ⟨Nat.le_trans HKW.out.size hbA.size, fun k o hk ho => ((hbA.block k (g_ hk).1).trans (HKW.out.same k o hk ho))⟩, HJ.out _ _ _ HJ3.out hbA, ?_, jpX HV.out (by simp only; omega), ?_, ?_, ?_⟩
         . unfold Hid; exact (by simpa using (a_ (w3.setCell ⟨k, 0, none⟩ (Value.int .i64 (x + 1))) (Obj.cells #[Value.int .i64 (x + 1), Value.int .i64 y] 24)).1)
         . have h1 := HLF.out;have h2 := z5C HIN.out hx1;unfold Hid;rw [List.length_append, List.length_singleton];omega
         . have h1 := HRS.out;rw [yAc HIN.out hx1] at h1;unfold Hid; rw [<- h1]; simp
         . exact HKW.out.size
        case measure =>
         rw [jbK HRk.out, jbK (x := x + 1) (y := y) (T := 24) (by simpa using (a_ (w3.setCell ⟨k, 0, none⟩ (Value.int .i64 (x + 1))) (Obj.cells #[Value.int .i64 (x + 1), Value.int .i64 y] 24)).1)];have h2 := z5C HIN.out hx1;omega
      . have HJ3 := h_ hJ3;clear hJ3 hR hy
        gi_wp2
        refine p_ (results_none rfl _ _ _) rfl ?_;exact ⟨⟨_, rfl⟩, Or.inr ⟨_, by have := HRS.out; rw [yAc HIN.out hx1] at this; exact y5l this, HJ3.out⟩⟩
end
section
open Go.RowKit Go.Sort Go.MapKept
attribute [local go_sem] Oper.semAt_some
theorem ygD {w : World} {P Q : Nat} (hne : P ≠ Q) {cp cq : Array Value} {T U : TypeId} (hP : w.heap[P]? = some (.cells cp T (0, 0))) (hQ : w.heap[Q]? = some (.cells cq U (0, 0))) (o1 o2 : Nat) (u1 u2 v1 v2 : Value) :
    ((((w.setCell ⟨P, o1, none⟩ u1).setCell ⟨P, o2, none⟩ u2).setCell ⟨Q, o1, none⟩ v1).setCell ⟨Q, o2, none⟩ v2).heap[P]? = some (.cells ((cp.setIfInBounds o1 u1).setIfInBounds o2 u2) T (0, 0)) /\
    ((((w.setCell ⟨P, o1, none⟩ u1).setCell ⟨P, o2, none⟩ u2).setCell ⟨Q, o1, none⟩ v1).setCell ⟨Q, o2, none⟩ v2).heap[Q]? = some (.cells ((cq.setIfInBounds o1 v1).setIfInBounds o2 v2) U (0, 0)) /\
    (∀ k, k ≠ P -> k ≠ Q -> ((((w.setCell ⟨P, o1, none⟩ u1).setCell ⟨P, o2, none⟩ u2).setCell ⟨Q, o1, none⟩ v1).setCell ⟨Q, o2, none⟩ v2).heap[k]? = w.heap[k]?) /\
    (∀ X, Xt X w -> X.heap.size <= P -> X.heap.size <= Q -> Xt X ((((w.setCell ⟨P, o1, none⟩ u1).setCell ⟨P, o2, none⟩ u2).setCell ⟨Q, o1, none⟩ v1).setCell ⟨Q, o2, none⟩ v2)) := by
 have a1 := ysv hP o1 u1;have a2 := ysv a1 o2 u2;have b1 : (w.setCell ⟨P, o1, none⟩ u1).heap[Q]? = some (.cells cq U (0, 0)) := (s_ _ _ _ _ (by simpa using fun e => hne e.symm)).trans hQ;have b2 : ((w.setCell ⟨P, o1, none⟩ u1).setCell ⟨P, o2, none⟩ u2).heap[Q]? = some (.cells cq U (0, 0)) := (s_ _ _ _ _ (by simpa using fun e => hne e.symm)).trans b1;have b3 := ysv b2 o1 v1;have b4 := ysv b3 o2 v2;refine ⟨?_, b4, fun k h1 h2 => ?_, fun X hX h1 h2 => ?_⟩
 . exact (s_ _ _ _ _ (by simpa using hne)).trans ((s_ _ _ _ _ (by simpa using hne)).trans a2)
 . exact (s_ _ _ _ _ (by simpa using h2)).trans ((s_ _ _ _ _ (by simpa using h2)).trans ((s_ _ _ _ _ (by simpa using h1)).trans (s_ _ _ _ _ (by simpa using h1))))
 . exact (((hX.grownB (yiv _ _ _ _) (fun q hq => by cases hq; exact h1)).grownB (yiv _ _ _ _) (fun q hq => by cases hq; exact h1)).grownB (yiv _ _ _ _) (fun q hq => by cases hq; exact h2)).grownB (yiv _ _ _ _) (fun q hq => by cases hq; exact h2)
theorem y0w (p q : RefT) (w : World) :
    Calls Tryz.prog 172 #[.agg #[.int .i64 p.a.1, .int .i64 p.a.2, .bool p.cf, .bool p.rf], .agg #[.int .i64 q.a.1, .int .i64 q.a.2, .bool q.cf, .bool q.rf]] w fun e w' => e = .returned (.tuple #[.agg #[.int .i64 (loR p q).a.1, .int .i64 (loR p q).a.2, .bool (loR p q).cf, .bool (loR p q).rf], .agg #[.int .i64 (hiR p q).a.1, .int .i64 (hiR p q).a.2, .bool (hiR p q).cf, .bool (hiR p q).rf]]) /\ Xt w w' := by
 obtain ⟨B, hB⟩ := e_ w.heap.size;obtain ⟨w0, hw0⟩ := e_ (w.alloc (.cells #[.int .i64 p.a.1, .int .i64 p.a.2, .bool p.cf, .bool p.rf] 46));have hs0 : w0.heap.size = B + 1 := (by rw [<- hw0, <- hB]; simp);obtain ⟨w1, hw1⟩ := e_ (w0.alloc (.cells #[.int .i64 q.a.1, .int .i64 q.a.2, .bool q.cf, .bool q.rf] 46));have hs1 : w1.heap.size = B + 1 + 1 := (by rw [<- hw1]; simp [hs0]);obtain ⟨w2, hw2⟩ := e_ (w1.alloc (.cells #[.int .i64 0, .int .i64 0, .bool false, .bool false] 46));have hs2 : w2.heap.size = B + 1 + 1 + 1 := by rw [<- hw2]; simp [hs1]
 obtain ⟨w3, hw3⟩ := e_ (w2.alloc (.cells #[.int .i64 0, .int .i64 0, .bool false, .bool false] 46));have hs3 : w3.heap.size = B + 1 + 1 + 1 + 1 := (by rw [<- hw3]; simp [hs2]);have HX3 : Hid (Xt w w3) := (by unfold Hid; rw [<- hw3, <- hw2, <- hw1, <- hw0]; exact ((((Xt.refl _).alloc _).alloc _).alloc _).alloc _);have hb0 : w0.heap[B]? = some (.cells #[.int .i64 p.a.1, .int .i64 p.a.2, .bool p.cf, .bool p.rf] 46 (0, 0)) := (by rw [<- hw0, <- hB]; exact (a_ w _).1);have hb1 : w1.heap[B + 1]? = some (.cells #[.int .i64 q.a.1, .int .i64 q.a.2, .bool q.cf, .bool q.rf] 46 (0, 0)) := by rw [<- hw1, <- hs0]; exact (a_ w0 _).1
 have hb2 : w2.heap[B + 1 + 1]? = some (.cells #[.int .i64 0, .int .i64 0, .bool false, .bool false] 46 (0, 0)) := (by rw [<- hw2, <- hs1]; exact (a_ w1 _).1);have hb3 : w3.heap[B + 1 + 1 + 1]? = some (.cells #[.int .i64 0, .int .i64 0, .bool false, .bool false] 46 (0, 0)) := (by rw [<- hw3, <- hs2]; exact (a_ w2 _).1);have x1 : Xt w0 w1 := (by rw [<- hw1]; exact (Xt.refl _).alloc _);have x2 : Xt w1 w2 := (by rw [<- hw2]; exact (Xt.refl _).alloc _);have x3 : Xt w2 w3 := (by rw [<- hw3]; exact (Xt.refl _).alloc _);have HA0 := h_ (rowX ((x1.trans x2).trans x3) hb0);have HA1 := h_ (rowX (x2.trans x3) hb1);have HA2 := h_ (rowX x3 hb2)
 have HA3 := h_ hb3;obtain ⟨⟨c0, c1, c2, c3⟩, _⟩ := jr0 HA0.out;obtain ⟨⟨d0, d1, d2, d3⟩, _⟩ := jr0 HA1.out;clear hb0 hb1 hb2 hb3 x1 x2 x3;go_enter Tryz.func172, Tryz.ntmps172;go_upto_region 1 with fail;clear hw0 hw1 hw2 hw3;go_upto_region 3 with fail;obtain ⟨w4, hw4⟩ := e_ (w3.alloc (.cells #[.int .i64 p.a.1, .int .i64 p.a.2, .bool p.cf, .bool p.rf] 46));have hs4 : w4.heap.size = B + 1 + 1 + 1 + 1 + 1 := (by rw [<- hw4]; simp [hs3]);obtain ⟨w5, hw5⟩ := e_ (w4.alloc (.cells #[.int .i64 q.a.1, .int .i64 q.a.2, .bool q.cf, .bool q.rf] 46));simp only [hw4, hw5];have x4 : Xt w3 w4 := by rw [<- hw4]; exact (Xt.refl _).alloc _
 have x5 : Xt w4 w5 := (by rw [<- hw5]; exact (Xt.refl _).alloc _);have HX5 : Hid (Xt w w5) := h_ ((HX3.out.trans x4).trans x5);have HB0 := h_ (rowX (x4.trans x5) HA0.out);have HB1 := h_ (rowX (x4.trans x5) HA1.out);have HB2 := h_ (rowX (x4.trans x5) HA2.out);have HB3 := h_ (rowX (x4.trans x5) HA3.out);have HB4 : Hid (r_ w5 (B + 1 + 1 + 1 + 1) #[.int .i64 p.a.1, .int .i64 p.a.2, .bool p.cf, .bool p.rf] 46) := rowX x5 (by rw [<- hw4, <- hs3]; exact (a_ w3 _).1)
 have HB5 : Hid (r_ w5 (B + 1 + 1 + 1 + 1 + 1) #[.int .i64 q.a.1, .int .i64 q.a.2, .bool q.cf, .bool q.rf] 46) := (by unfold Hid; rw [<- hw5, <- hs4]; exact (a_ w4 _).1);clear hw4 hw5 x4 x5 c0 c1 c2 c3 d0 d1 d2 d3;obtain ⟨⟨c0, c1, c2, c3⟩, _⟩ := jr0 HB0.out;obtain ⟨⟨d0, d1, d2, d3⟩, _⟩ := jr0 HB1.out;obtain ⟨_, ⟨e0, e1, e2, e3⟩⟩ := jr0 HB4.out;obtain ⟨_, ⟨g0, g1, g2, g3⟩⟩ := jr0 HB5.out;by_cases h1 : q.a.1 < p.a.1
 . by_cases h2 : q.a.2 < p.a.2
   . go_upto_region 13 with fail;obtain ⟨r4, r5, ro, rx⟩ := ygD (w := w5) (P := B + 1 + 1 + 1 + 1) (Q := B + 1 + 1 + 1 + 1 + 1) (by omega) HB4.out HB5.out 0 2 (.int .i64 q.a.1) (.bool q.cf) (.int .i64 p.a.1) (.bool p.cf);obtain ⟨w61, hw6⟩ := e_ (((((w5).setCell ⟨B + 1 + 1 + 1 + 1, 0, none⟩ (.int .i64 q.a.1)).setCell ⟨B + 1 + 1 + 1 + 1, 2, none⟩ (.bool q.cf)).setCell ⟨B + 1 + 1 + 1 + 1 + 1, 0, none⟩ (.int .i64 p.a.1)).setCell ⟨B + 1 + 1 + 1 + 1 + 1, 2, none⟩ (.bool p.cf));rw [hw6] at r4 r5 rx;simp only [hw6] at ro ⊢;simp only [List.setIfInBounds_toArray, List.set_cons_zero, List.set_cons_succ] at r4 r5;have HQ41 := h_ r4;have HQ51 := h_ r5
     have HQ21 := h_ ((ro (B + 1 + 1) (by omega) (by omega)).trans HB2.out);have HQ31 := h_ ((ro (B + 1 + 1 + 1) (by omega) (by omega)).trans HB3.out);have HQX1 := h_ (rx w HX5.out (by omega) (by omega));clear r4 r5 ro rx hw6;obtain ⟨r4, r5, ro, rx⟩ := ygD (w := w61) (P := B + 1 + 1 + 1 + 1) (Q := B + 1 + 1 + 1 + 1 + 1) (by omega) HQ41.out HQ51.out 1 3 (.int .i64 q.a.2) (.bool q.rf) (.int .i64 p.a.2) (.bool p.rf)
     obtain ⟨w62, hw6⟩ := e_ (((((w61).setCell ⟨B + 1 + 1 + 1 + 1, 1, none⟩ (.int .i64 q.a.2)).setCell ⟨B + 1 + 1 + 1 + 1, 3, none⟩ (.bool q.rf)).setCell ⟨B + 1 + 1 + 1 + 1 + 1, 1, none⟩ (.int .i64 p.a.2)).setCell ⟨B + 1 + 1 + 1 + 1 + 1, 3, none⟩ (.bool p.rf));rw [hw6] at r4 r5 rx;simp only [hw6] at ro ⊢;simp only [List.setIfInBounds_toArray, List.set_cons_zero, List.set_cons_succ] at r4 r5;have HQ42 := h_ r4;have HQ52 := h_ r5;have HQ22 := h_ ((ro (B + 1 + 1) (by omega) (by omega)).trans HQ21.out);have HQ32 := h_ ((ro (B + 1 + 1 + 1) (by omega) (by omega)).trans HQ31.out);have HQX2 := h_ (rx w HQX1.out (by omega) (by omega));clear r4 r5 ro rx hw6
     have HR4 := h_ (rowX (Xt.refl w62).drew HQ42.out);have HR5 := h_ (rowX (Xt.refl w62).drew HQ52.out);have HR2 := h_ (rowX (Xt.refl w62).drew HQ22.out);have HR3 := h_ (rowX (Xt.refl w62).drew HQ32.out);have HX6 := h_ (Xt.drew HQX2.out);refine wp_region_held_drew (S := fun V => r_ V (B + 1 + 1 + 1 + 1) #[.int .i64 q.a.1, .int .i64 q.a.2, .bool q.cf, .bool q.rf] 46 /\ r_ V (B + 1 + 1 + 1 + 1 + 1) #[.int .i64 p.a.1, .int .i64 p.a.2, .bool p.cf, .bool p.rf] 46) (by kernel_rfl) ⟨HR4.out, HR5.out⟩ (fun hHeld => ?_);refine tkH 0 (.agg #[.int .i64 q.a.1, .int .i64 q.a.2, .bool q.cf, .bool q.rf]) ?_ ?_
     . intro V hSw; exact jad 46 _ (by rfl) (B + 1 + 1 + 1 + 1) (by rfl) 46 _ (0, 0) _ hSw.1 Tryz.underlying46 rfl (by kernel_rfl)
     try simp only [Act.put, nm]
     refine tkH 1 (.agg #[.int .i64 p.a.1, .int .i64 p.a.2, .bool p.cf, .bool p.rf]) ?_ ?_
     . intro V hSw; exact jad 46 _ (by rfl) (B + 1 + 1 + 1 + 1 + 1) (by rfl) 46 _ (0, 0) _ hSw.2 Tryz.underlying46 rfl (by kernel_rfl)
     try simp only [Act.put, nm]
     refine rdH 2 (fun K hK => ?_);rw [if_pos (by rfl)];refine wp_store_row (P := Tryz.prog) 46 _ _ rfl (B + 1 + 1) #[.int .i64 q.a.1, .int .i64 q.a.2, .bool q.cf, .bool q.rf] rfl rfl 46 _ HR2.out (by kernel_rfl) rfl (by simp [Value.oneCell']) ?_;refine ko hK ⟨(setRow_other _ _ _ _ (by omega)).trans HR4.out, (setRow_other _ _ _ _ (by omega)).trans HR5.out⟩ fun hHeld2 => ?_;clear hK K;refine rdH 3 (fun K hK => ?_);rw [if_pos (by rfl)];refine wp_store_row (P := Tryz.prog) 46 _ _ rfl (B + 1 + 1 + 1) #[.int .i64 p.a.1, .int .i64 p.a.2, .bool p.cf, .bool p.rf] rfl rfl 46 _ ((setRow_other _ _ _ _ (by omega)).trans HR3.out) (by kernel_rfl) rfl (by simp [Value.oneCell']) ?_
     refine hK.out _ _ ⟨(setRow_other _ _ _ _ (by omega)).trans ((setRow_other _ _ _ _ (by omega)).trans HR4.out), (setRow_other _ _ _ _ (by omega)).trans ((setRow_other _ _ _ _ (by omega)).trans HR5.out)⟩ (fun hHeld3 => ?_);clear hK K;refine z_ (by kernel_rfl) ?_ _;go_wp2_with fail
     (try simp only [Exit.inBlock, Exit.then])
     have hX : (World.setRow (World.setRow w62.drew (B + 1 + 1) #[.int .i64 q.a.1, .int .i64 q.a.2, .bool q.cf, .bool q.rf]) (B + 1 + 1 + 1) #[.int .i64 p.a.1, .int .i64 p.a.2, .bool p.cf, .bool p.rf]).heap[B + 1 + 1]? = some (.cells #[.int .i64 q.a.1, .int .i64 q.a.2, .bool q.cf, .bool q.rf] 46 (0, 0)) := ((setRow_other (World.setRow w62.drew (B + 1 + 1) #[.int .i64 q.a.1, .int .i64 q.a.2, .bool q.cf, .bool q.rf]) (B + 1 + 1 + 1) (B + 1 + 1) _ (by omega)).trans (setRow_heap _ _ _ _ _ _ HR2.out))
     have hY : (World.setRow (World.setRow w62.drew (B + 1 + 1) #[.int .i64 q.a.1, .int .i64 q.a.2, .bool q.cf, .bool q.rf]) (B + 1 + 1 + 1) #[.int .i64 p.a.1, .int .i64 p.a.2, .bool p.cf, .bool p.rf]).heap[B + 1 + 1 + 1]? = some (.cells #[.int .i64 p.a.1, .int .i64 p.a.2, .bool p.cf, .bool p.rf] 46 (0, 0)) := (setRow_heap (World.setRow w62.drew (B + 1 + 1) #[.int .i64 q.a.1, .int .i64 q.a.2, .bool q.cf, .bool q.rf]) (B + 1 + 1 + 1) _ #[.int .i64 p.a.1, .int .i64 p.a.2, .bool p.cf, .bool p.rf] _ _ ((setRow_other _ _ _ _ (by omega)).trans HR3.out))
     refine p_ (yGx rfl _ _ (B + 1 + 1) (B + 1 + 1 + 1) (.agg #[.int .i64 q.a.1, .int .i64 q.a.2, .bool q.cf, .bool q.rf]) (.agg #[.int .i64 p.a.1, .int .i64 p.a.2, .bool p.cf, .bool p.rf]) rfl rfl (l_ _ _ _ 46 #[.int .i64 q.a.1, .int .i64 q.a.2, .bool q.cf, .bool q.rf] _ _ hX Tryz.underlying46 rfl (by kernel_rfl)) (l_ _ _ _ 46 #[.int .i64 p.a.1, .int .i64 p.a.2, .bool p.cf, .bool p.rf] _ _ hY Tryz.underlying46 rfl (by kernel_rfl))) rfl ?_;exact ⟨by simp only [loR, hiR, if_pos h1, if_pos h2], (HX6.out.grownB (jGX _ _ _) (fun q hq => by cases hq; omega)).grownB (jGX _ _ _) (fun q hq => by cases hq; omega)⟩
   . go_upto_region 13 with fail;obtain ⟨r4, r5, ro, rx⟩ := ygD (w := w5) (P := B + 1 + 1 + 1 + 1) (Q := B + 1 + 1 + 1 + 1 + 1) (by omega) HB4.out HB5.out 0 2 (.int .i64 q.a.1) (.bool q.cf) (.int .i64 p.a.1) (.bool p.cf);obtain ⟨w61, hw6⟩ := e_ (((((w5).setCell ⟨B + 1 + 1 + 1 + 1, 0, none⟩ (.int .i64 q.a.1)).setCell ⟨B + 1 + 1 + 1 + 1, 2, none⟩ (.bool q.cf)).setCell ⟨B + 1 + 1 + 1 + 1 + 1, 0, none⟩ (.int .i64 p.a.1)).setCell ⟨B + 1 + 1 + 1 + 1 + 1, 2, none⟩ (.bool p.cf));rw [hw6] at r4 r5 rx;simp only [hw6] at ro ⊢;simp only [List.setIfInBounds_toArray, List.set_cons_zero, List.set_cons_succ] at r4 r5;have HQ41 := h_ r4;have HQ51 := h_ r5
     have HQ21 := h_ ((ro (B + 1 + 1) (by omega) (by omega)).trans HB2.out);have HQ31 := h_ ((ro (B + 1 + 1 + 1) (by omega) (by omega)).trans HB3.out);have HQX1 := h_ (rx w HX5.out (by omega) (by omega));clear r4 r5 ro rx hw6;have HR4 := h_ (rowX (Xt.refl w61).drew HQ41.out);have HR5 := h_ (rowX (Xt.refl w61).drew HQ51.out);have HR2 := h_ (rowX (Xt.refl w61).drew HQ21.out);have HR3 := h_ (rowX (Xt.refl w61).drew HQ31.out);have HX6 := h_ (Xt.drew HQX1.out)
     refine wp_region_held_drew (S := fun V => r_ V (B + 1 + 1 + 1 + 1) #[.int .i64 q.a.1, .int .i64 p.a.2, .bool q.cf, .bool p.rf] 46 /\ r_ V (B + 1 + 1 + 1 + 1 + 1) #[.int .i64 p.a.1, .int .i64 q.a.2, .bool p.cf, .bool q.rf] 46) (by kernel_rfl) ⟨HR4.out, HR5.out⟩ (fun hHeld => ?_);refine tkH 0 (.agg #[.int .i64 q.a.1, .int .i64 p.a.2, .bool q.cf, .bool p.rf]) ?_ ?_
     . intro V hSw; exact jad 46 _ (by rfl) (B + 1 + 1 + 1 + 1) (by rfl) 46 _ (0, 0) _ hSw.1 Tryz.underlying46 rfl (by kernel_rfl)
     try simp only [Act.put, nm]
     refine tkH 1 (.agg #[.int .i64 p.a.1, .int .i64 q.a.2, .bool p.cf, .bool q.rf]) ?_ ?_
     . intro V hSw; exact jad 46 _ (by rfl) (B + 1 + 1 + 1 + 1 + 1) (by rfl) 46 _ (0, 0) _ hSw.2 Tryz.underlying46 rfl (by kernel_rfl)
     try simp only [Act.put, nm]
     refine rdH 2 (fun K hK => ?_);rw [if_pos (by rfl)];refine wp_store_row (P := Tryz.prog) 46 _ _ rfl (B + 1 + 1) #[.int .i64 q.a.1, .int .i64 p.a.2, .bool q.cf, .bool p.rf] rfl rfl 46 _ HR2.out (by kernel_rfl) rfl (by simp [Value.oneCell']) ?_;refine ko hK ⟨(setRow_other _ _ _ _ (by omega)).trans HR4.out, (setRow_other _ _ _ _ (by omega)).trans HR5.out⟩ fun hHeld2 => ?_;clear hK K;refine rdH 3 (fun K hK => ?_);rw [if_pos (by rfl)];refine wp_store_row (P := Tryz.prog) 46 _ _ rfl (B + 1 + 1 + 1) #[.int .i64 p.a.1, .int .i64 q.a.2, .bool p.cf, .bool q.rf] rfl rfl 46 _ ((setRow_other _ _ _ _ (by omega)).trans HR3.out) (by kernel_rfl) rfl (by simp [Value.oneCell']) ?_
     refine hK.out _ _ ⟨(setRow_other _ _ _ _ (by omega)).trans ((setRow_other _ _ _ _ (by omega)).trans HR4.out), (setRow_other _ _ _ _ (by omega)).trans ((setRow_other _ _ _ _ (by omega)).trans HR5.out)⟩ (fun hHeld3 => ?_);clear hK K;refine z_ (by kernel_rfl) ?_ _;go_wp2_with fail
     (try simp only [Exit.inBlock, Exit.then])
     have hX : (World.setRow (World.setRow w61.drew (B + 1 + 1) #[.int .i64 q.a.1, .int .i64 p.a.2, .bool q.cf, .bool p.rf]) (B + 1 + 1 + 1) #[.int .i64 p.a.1, .int .i64 q.a.2, .bool p.cf, .bool q.rf]).heap[B + 1 + 1]? = some (.cells #[.int .i64 q.a.1, .int .i64 p.a.2, .bool q.cf, .bool p.rf] 46 (0, 0)) := ((setRow_other (World.setRow w61.drew (B + 1 + 1) #[.int .i64 q.a.1, .int .i64 p.a.2, .bool q.cf, .bool p.rf]) (B + 1 + 1 + 1) (B + 1 + 1) _ (by omega)).trans (setRow_heap _ _ _ _ _ _ HR2.out))
     have hY : (World.setRow (World.setRow w61.drew (B + 1 + 1) #[.int .i64 q.a.1, .int .i64 p.a.2, .bool q.cf, .bool p.rf]) (B + 1 + 1 + 1) #[.int .i64 p.a.1, .int .i64 q.a.2, .bool p.cf, .bool q.rf]).heap[B + 1 + 1 + 1]? = some (.cells #[.int .i64 p.a.1, .int .i64 q.a.2, .bool p.cf, .bool q.rf] 46 (0, 0)) := (setRow_heap (World.setRow w61.drew (B + 1 + 1) #[.int .i64 q.a.1, .int .i64 p.a.2, .bool q.cf, .bool p.rf]) (B + 1 + 1 + 1) _ #[.int .i64 p.a.1, .int .i64 q.a.2, .bool p.cf, .bool q.rf] _ _ ((setRow_other _ _ _ _ (by omega)).trans HR3.out))
     refine p_ (yGx rfl _ _ (B + 1 + 1) (B + 1 + 1 + 1) (.agg #[.int .i64 q.a.1, .int .i64 p.a.2, .bool q.cf, .bool p.rf]) (.agg #[.int .i64 p.a.1, .int .i64 q.a.2, .bool p.cf, .bool q.rf]) rfl rfl (l_ _ _ _ 46 #[.int .i64 q.a.1, .int .i64 p.a.2, .bool q.cf, .bool p.rf] _ _ hX Tryz.underlying46 rfl (by kernel_rfl)) (l_ _ _ _ 46 #[.int .i64 p.a.1, .int .i64 q.a.2, .bool p.cf, .bool q.rf] _ _ hY Tryz.underlying46 rfl (by kernel_rfl))) rfl ?_
     exact ⟨by simp only [loR, hiR, if_pos h1, if_neg (show ¬ q.a.2 < p.a.2 by omega)], (HX6.out.grownB (jGX _ _ _) (fun q hq => by cases hq; omega)).grownB (jGX _ _ _) (fun q hq => by cases hq; omega)⟩
 . by_cases h2 : q.a.2 < p.a.2
   . go_upto_region 13 with fail;obtain ⟨r4, r5, ro, rx⟩ := ygD (w := w5) (P := B + 1 + 1 + 1 + 1) (Q := B + 1 + 1 + 1 + 1 + 1) (by omega) HB4.out HB5.out 1 3 (.int .i64 q.a.2) (.bool q.rf) (.int .i64 p.a.2) (.bool p.rf);obtain ⟨w61, hw6⟩ := e_ (((((w5).setCell ⟨B + 1 + 1 + 1 + 1, 1, none⟩ (.int .i64 q.a.2)).setCell ⟨B + 1 + 1 + 1 + 1, 3, none⟩ (.bool q.rf)).setCell ⟨B + 1 + 1 + 1 + 1 + 1, 1, none⟩ (.int .i64 p.a.2)).setCell ⟨B + 1 + 1 + 1 + 1 + 1, 3, none⟩ (.bool p.rf));rw [hw6] at r4 r5 rx;simp only [hw6] at ro ⊢;simp only [List.setIfInBounds_toArray, List.set_cons_zero, List.set_cons_succ] at r4 r5;have HQ41 := h_ r4;have HQ51 := h_ r5
     have HQ21 := h_ ((ro (B + 1 + 1) (by omega) (by omega)).trans HB2.out);have HQ31 := h_ ((ro (B + 1 + 1 + 1) (by omega) (by omega)).trans HB3.out);have HQX1 := h_ (rx w HX5.out (by omega) (by omega));clear r4 r5 ro rx hw6;have HR4 := h_ (rowX (Xt.refl w61).drew HQ41.out);have HR5 := h_ (rowX (Xt.refl w61).drew HQ51.out);have HR2 := h_ (rowX (Xt.refl w61).drew HQ21.out);have HR3 := h_ (rowX (Xt.refl w61).drew HQ31.out);have HX6 := h_ (Xt.drew HQX1.out)
     refine wp_region_held_drew (S := fun V => r_ V (B + 1 + 1 + 1 + 1) #[.int .i64 p.a.1, .int .i64 q.a.2, .bool p.cf, .bool q.rf] 46 /\ r_ V (B + 1 + 1 + 1 + 1 + 1) #[.int .i64 q.a.1, .int .i64 p.a.2, .bool q.cf, .bool p.rf] 46) (by kernel_rfl) ⟨HR4.out, HR5.out⟩ (fun hHeld => ?_);refine tkH 0 (.agg #[.int .i64 p.a.1, .int .i64 q.a.2, .bool p.cf, .bool q.rf]) ?_ ?_
     . intro V hSw; exact jad 46 _ (by rfl) (B + 1 + 1 + 1 + 1) (by rfl) 46 _ (0, 0) _ hSw.1 Tryz.underlying46 rfl (by kernel_rfl)
     try simp only [Act.put, nm]
     refine tkH 1 (.agg #[.int .i64 q.a.1, .int .i64 p.a.2, .bool q.cf, .bool p.rf]) ?_ ?_
     . intro V hSw; exact jad 46 _ (by rfl) (B + 1 + 1 + 1 + 1 + 1) (by rfl) 46 _ (0, 0) _ hSw.2 Tryz.underlying46 rfl (by kernel_rfl)
     try simp only [Act.put, nm]
     refine rdH 2 (fun K hK => ?_);rw [if_pos (by rfl)];refine wp_store_row (P := Tryz.prog) 46 _ _ rfl (B + 1 + 1) #[.int .i64 p.a.1, .int .i64 q.a.2, .bool p.cf, .bool q.rf] rfl rfl 46 _ HR2.out (by kernel_rfl) rfl (by simp [Value.oneCell']) ?_;refine ko hK ⟨(setRow_other _ _ _ _ (by omega)).trans HR4.out, (setRow_other _ _ _ _ (by omega)).trans HR5.out⟩ fun hHeld2 => ?_;clear hK K;refine rdH 3 (fun K hK => ?_);rw [if_pos (by rfl)];refine wp_store_row (P := Tryz.prog) 46 _ _ rfl (B + 1 + 1 + 1) #[.int .i64 q.a.1, .int .i64 p.a.2, .bool q.cf, .bool p.rf] rfl rfl 46 _ ((setRow_other _ _ _ _ (by omega)).trans HR3.out) (by kernel_rfl) rfl (by simp [Value.oneCell']) ?_
     refine hK.out _ _ ⟨(setRow_other _ _ _ _ (by omega)).trans ((setRow_other _ _ _ _ (by omega)).trans HR4.out), (setRow_other _ _ _ _ (by omega)).trans ((setRow_other _ _ _ _ (by omega)).trans HR5.out)⟩ (fun hHeld3 => ?_);clear hK K;refine z_ (by kernel_rfl) ?_ _;go_wp2_with fail
     (try simp only [Exit.inBlock, Exit.then])
     have hX : (World.setRow (World.setRow w61.drew (B + 1 + 1) #[.int .i64 p.a.1, .int .i64 q.a.2, .bool p.cf, .bool q.rf]) (B + 1 + 1 + 1) #[.int .i64 q.a.1, .int .i64 p.a.2, .bool q.cf, .bool p.rf]).heap[B + 1 + 1]? = some (.cells #[.int .i64 p.a.1, .int .i64 q.a.2, .bool p.cf, .bool q.rf] 46 (0, 0)) := ((setRow_other (World.setRow w61.drew (B + 1 + 1) #[.int .i64 p.a.1, .int .i64 q.a.2, .bool p.cf, .bool q.rf]) (B + 1 + 1 + 1) (B + 1 + 1) _ (by omega)).trans (setRow_heap _ _ _ _ _ _ HR2.out))
     have hY : (World.setRow (World.setRow w61.drew (B + 1 + 1) #[.int .i64 p.a.1, .int .i64 q.a.2, .bool p.cf, .bool q.rf]) (B + 1 + 1 + 1) #[.int .i64 q.a.1, .int .i64 p.a.2, .bool q.cf, .bool p.rf]).heap[B + 1 + 1 + 1]? = some (.cells #[.int .i64 q.a.1, .int .i64 p.a.2, .bool q.cf, .bool p.rf] 46 (0, 0)) := (setRow_heap (World.setRow w61.drew (B + 1 + 1) #[.int .i64 p.a.1, .int .i64 q.a.2, .bool p.cf, .bool q.rf]) (B + 1 + 1 + 1) _ #[.int .i64 q.a.1, .int .i64 p.a.2, .bool q.cf, .bool p.rf] _ _ ((setRow_other _ _ _ _ (by omega)).trans HR3.out))
     refine p_ (yGx rfl _ _ (B + 1 + 1) (B + 1 + 1 + 1) (.agg #[.int .i64 p.a.1, .int .i64 q.a.2, .bool p.cf, .bool q.rf]) (.agg #[.int .i64 q.a.1, .int .i64 p.a.2, .bool q.cf, .bool p.rf]) rfl rfl (l_ _ _ _ 46 #[.int .i64 p.a.1, .int .i64 q.a.2, .bool p.cf, .bool q.rf] _ _ hX Tryz.underlying46 rfl (by kernel_rfl)) (l_ _ _ _ 46 #[.int .i64 q.a.1, .int .i64 p.a.2, .bool q.cf, .bool p.rf] _ _ hY Tryz.underlying46 rfl (by kernel_rfl))) rfl ?_
     exact ⟨by simp only [loR, hiR, if_neg (show ¬ q.a.1 < p.a.1 by omega), if_pos h2], (HX6.out.grownB (jGX _ _ _) (fun q hq => by cases hq; omega)).grownB (jGX _ _ _) (fun q hq => by cases hq; omega)⟩
   . go_upto_region 13 with fail;have HR4 := h_ (rowX (Xt.refl w5).drew HB4.out);have HR5 := h_ (rowX (Xt.refl w5).drew HB5.out);have HR2 := h_ (rowX (Xt.refl w5).drew HB2.out);have HR3 := h_ (rowX (Xt.refl w5).drew HB3.out);have HX6 := h_ (Xt.drew HX5.out);refine wp_region_held_drew (S := fun V => r_ V (B + 1 + 1 + 1 + 1) #[.int .i64 p.a.1, .int .i64 p.a.2, .bool p.cf, .bool p.rf] 46 /\ r_ V (B + 1 + 1 + 1 + 1 + 1) #[.int .i64 q.a.1, .int .i64 q.a.2, .bool q.cf, .bool q.rf] 46) (by kernel_rfl) ⟨HR4.out, HR5.out⟩ (fun hHeld => ?_);refine tkH 0 (.agg #[.int .i64 p.a.1, .int .i64 p.a.2, .bool p.cf, .bool p.rf]) ?_ ?_
     . intro V hSw; exact jad 46 _ (by rfl) (B + 1 + 1 + 1 + 1) (by rfl) 46 _ (0, 0) _ hSw.1 Tryz.underlying46 rfl (by kernel_rfl)
     try simp only [Act.put, nm]
     refine tkH 1 (.agg #[.int .i64 q.a.1, .int .i64 q.a.2, .bool q.cf, .bool q.rf]) ?_ ?_
     . intro V hSw; exact jad 46 _ (by rfl) (B + 1 + 1 + 1 + 1 + 1) (by rfl) 46 _ (0, 0) _ hSw.2 Tryz.underlying46 rfl (by kernel_rfl)
     try simp only [Act.put, nm]
     refine rdH 2 (fun K hK => ?_);rw [if_pos (by rfl)];refine wp_store_row (P := Tryz.prog) 46 _ _ rfl (B + 1 + 1) #[.int .i64 p.a.1, .int .i64 p.a.2, .bool p.cf, .bool p.rf] rfl rfl 46 _ HR2.out (by kernel_rfl) rfl (by simp [Value.oneCell']) ?_;refine ko hK ⟨(setRow_other _ _ _ _ (by omega)).trans HR4.out, (setRow_other _ _ _ _ (by omega)).trans HR5.out⟩ fun hHeld2 => ?_;clear hK K;refine rdH 3 (fun K hK => ?_);rw [if_pos (by rfl)];refine wp_store_row (P := Tryz.prog) 46 _ _ rfl (B + 1 + 1 + 1) #[.int .i64 q.a.1, .int .i64 q.a.2, .bool q.cf, .bool q.rf] rfl rfl 46 _ ((setRow_other _ _ _ _ (by omega)).trans HR3.out) (by kernel_rfl) rfl (by simp [Value.oneCell']) ?_
     refine hK.out _ _ ⟨(setRow_other _ _ _ _ (by omega)).trans ((setRow_other _ _ _ _ (by omega)).trans HR4.out), (setRow_other _ _ _ _ (by omega)).trans ((setRow_other _ _ _ _ (by omega)).trans HR5.out)⟩ (fun hHeld3 => ?_);clear hK K;refine z_ (by kernel_rfl) ?_ _;go_wp2_with fail
     (try simp only [Exit.inBlock, Exit.then])
     have hX : (World.setRow (World.setRow w5.drew (B + 1 + 1) #[.int .i64 p.a.1, .int .i64 p.a.2, .bool p.cf, .bool p.rf]) (B + 1 + 1 + 1) #[.int .i64 q.a.1, .int .i64 q.a.2, .bool q.cf, .bool q.rf]).heap[B + 1 + 1]? = some (.cells #[.int .i64 p.a.1, .int .i64 p.a.2, .bool p.cf, .bool p.rf] 46 (0, 0)) := ((setRow_other (World.setRow w5.drew (B + 1 + 1) #[.int .i64 p.a.1, .int .i64 p.a.2, .bool p.cf, .bool p.rf]) (B + 1 + 1 + 1) (B + 1 + 1) _ (by omega)).trans (setRow_heap _ _ _ _ _ _ HR2.out))
     have hY : (World.setRow (World.setRow w5.drew (B + 1 + 1) #[.int .i64 p.a.1, .int .i64 p.a.2, .bool p.cf, .bool p.rf]) (B + 1 + 1 + 1) #[.int .i64 q.a.1, .int .i64 q.a.2, .bool q.cf, .bool q.rf]).heap[B + 1 + 1 + 1]? = some (.cells #[.int .i64 q.a.1, .int .i64 q.a.2, .bool q.cf, .bool q.rf] 46 (0, 0)) := (setRow_heap (World.setRow w5.drew (B + 1 + 1) #[.int .i64 p.a.1, .int .i64 p.a.2, .bool p.cf, .bool p.rf]) (B + 1 + 1 + 1) _ #[.int .i64 q.a.1, .int .i64 q.a.2, .bool q.cf, .bool q.rf] _ _ ((setRow_other _ _ _ _ (by omega)).trans HR3.out))
     refine p_ (yGx rfl _ _ (B + 1 + 1) (B + 1 + 1 + 1) (.agg #[.int .i64 p.a.1, .int .i64 p.a.2, .bool p.cf, .bool p.rf]) (.agg #[.int .i64 q.a.1, .int .i64 q.a.2, .bool q.cf, .bool q.rf]) rfl rfl (l_ _ _ _ 46 #[.int .i64 p.a.1, .int .i64 p.a.2, .bool p.cf, .bool p.rf] _ _ hX Tryz.underlying46 rfl (by kernel_rfl)) (l_ _ _ _ 46 #[.int .i64 q.a.1, .int .i64 q.a.2, .bool q.cf, .bool q.rf] _ _ hY Tryz.underlying46 rfl (by kernel_rfl))) rfl ?_
     exact ⟨by simp only [loR, hiR, if_neg (show ¬ q.a.1 < p.a.1 by omega), if_neg (show ¬ q.a.2 < p.a.2 by omega)], (HX6.out.grownB (jGX _ _ _) (fun q hq => by cases hq; omega)).grownB (jGX _ _ _) (fun q hq => by cases hq; omega)⟩
end
end Go.Proofs.YtdoeejhdenifpaaGreatDoor
