import Derived.Test.YtlgkaipgdhcajaaGreatDoorM10
import Derived.Test.YtlgkaipgdhcajaaGreatDoorA10
import Derived.Test.YtlgkaipgdhcajaaGreatDoorA11
import Derived.Test.YtlgkaipgdhcajaaGreatDoorW27
import Derived.Test.YtlgkaipgdhcajaaGreatDoorA12
import Derived.StillTailTactics
import Derived.Test.YtlgkaipgdhcajaaGreatDoorM9
import Derived.Test.YtlgkaipgdhcajaaGreatDoorW18
import Derived.Test.YtlgkaipgdhcajaaGreatDoorA1
import Derived.Test.YtlgkaipgdhcajaaGreatDoorA2
import Derived.Laws.MakeOwn
import Derived.Test.YtlgkaipgdhcajaaGreatDoorM5
/- quadrillelaw22's pick, place, lines and all; Cols. -/
namespace Go.Proofs.YtlgkaipgdhcajaaGreatDoor
open Go.RowKit Go.Sort

/-! ### pick, by its value -/
def pickZ (c n : Int) : Int := if c < 0 then -((c + 1).tmod n) else c % n
theorem wrap_idz {x : Int} (h0 : -9223372036854775808 ≤ x) (h1 : x ≤ 9223372036854775807) : IntKind.i64.wrap x = x := by rw [IntKind.wrap_i64]; omega
theorem pickZ_lt {c n : Int} (hn : 0 < n) : 0 ≤ pickZ c n ∧ pickZ c n < n := by
  unfold pickZ
  split
  · have a3 : 0 ≤ (-(c + 1)).tmod n := Int.tmod_nonneg _ (by omega)
    have a4 : (-(c + 1)).tmod n < n := Int.tmod_lt_of_pos _ hn
    rw [Int.neg_tmod] at a3 a4
    exact ⟨a3, a4⟩
  · exact ⟨Int.emod_nonneg _ (by omega), Int.emod_lt_of_pos _ hn⟩
set_option maxHeartbeats 1000000 in
theorem pickz_any (c n : Int) (w : World) (h0 : -9223372036854775808 ≤ c) (h1 : c ≤ 9223372036854775807) (hn : 0 < n) (hn1 : n ≤ 9223372036854775807) : Calls Tryz.prog 14 #[.int .i64 c, .int .i64 n] w fun e w' => e = .returned (.int .i64 (pickZ c n)) ∧ w = w' := by
  have hn0 : (n == 0) = false := by simp; omega
  have hn2 : ¬ n = 0 := by omega
  by_cases hc : c < 0
  · have hz : pickZ c n = -((c + 1).tmod n) := by unfold pickZ; rw [if_pos hc]
    have a1 : IntKind.i64.wrap (c + 1) = c + 1 := wrap_idz (by omega) (by omega)
    have a2 : IntKind.i64.wrap (-(c + 1)) = -(c + 1) := wrap_idz (by omega) (by omega)
    have a3 : 0 ≤ (-(c + 1)).tmod n := Int.tmod_nonneg _ (by omega)
    have a4 : (-(c + 1)).tmod n < n := Int.tmod_lt_of_pos _ hn
    have a5 : IntKind.i64.wrap ((-(c + 1)).tmod n) = (-(c + 1)).tmod n := wrap_idz (by omega) (by omega)
    have HZ := Lib.hid hz
    clear hz
    go_enter Tryz.func14, Tryz.ntmps14
    go_wp2_with fail
    go_ret
    refine ⟨?_, rfl⟩
    rw [HZ.out]
    first | rfl | simp
  · have hz : pickZ c n = c % n := by unfold pickZ; rw [if_neg hc]
    have a3 : 0 ≤ c.tmod n := Int.tmod_nonneg _ (by omega)
    have a4 : c.tmod n < n := Int.tmod_lt_of_pos _ hn
    have a5 : IntKind.i64.wrap (c.tmod n) = c.tmod n := wrap_idz (by omega) (by omega)
    have HZ := Lib.hid hz
    clear hz
    go_enter Tryz.func14, Tryz.ntmps14
    go_wp2_with fail
    go_ret
    refine ⟨?_, rfl⟩
    rw [HZ.out]
    first | rfl | simp
def placeZ (cols : Bool) (raw : Int) : Int := if 0 < pickZ raw 4 then 1 + pickZ raw 12 else if cols then 1 + pickZ raw 256 else 1 + pickZ raw 4096
theorem placeZ_bd (cols : Bool) (raw : Int) : 1 ≤ placeZ cols raw ∧ placeZ cols raw ≤ manyL cols := by
  have h1 := pickZ_lt (c := raw) (n := 12) (by omega)
  have h2 := pickZ_lt (c := raw) (n := 256) (by omega)
  have h3 := pickZ_lt (c := raw) (n := 4096) (by omega)
  unfold placeZ manyL
  cases cols <;> simp only [if_true, Bool.false_eq_true, if_false] <;> split <;> omega
set_option maxRecDepth 100000 in
set_option maxHeartbeats 2000000 in
theorem placeL_any (cols : Bool) (raw : Int) (w : World) (h0 : -9223372036854775808 ≤ raw) (h1 : raw ≤ 9223372036854775807) :
    Calls Tryz.prog 13 #[.bool cols, .int .i64 raw] w fun e w' => e = .returned (.int .i64 (placeZ cols raw)) ∧ w = w' := by
  have p4 := Lib.hid (fun w => pickz_any raw 4 w h0 h1 (by omega) (by omega))
  have p12 := Lib.hid (fun w => pickz_any raw 12 w h0 h1 (by omega) (by omega))
  have p256 := Lib.hid (fun w => pickz_any raw 256 w h0 h1 (by omega) (by omega))
  have p4096 := Lib.hid (fun w => pickz_any raw 4096 w h0 h1 (by omega) (by omega))
  have b4 := pickZ_lt (c := raw) (n := 4) (by omega)
  have b12 := pickZ_lt (c := raw) (n := 12) (by omega)
  have b256 := pickZ_lt (c := raw) (n := 256) (by omega)
  have b4096 := pickZ_lt (c := raw) (n := 4096) (by omega)
  obtain ⟨z, hz⟩ : ∃ z, placeZ cols raw = z := ⟨_, rfl⟩
  unfold placeZ at hz
  rw [show placeZ cols raw = z from hz]
  obtain ⟨q4, h4⟩ : ∃ q, pickZ raw 4 = q := ⟨_, rfl⟩
  obtain ⟨q12, h12⟩ : ∃ q, pickZ raw 12 = q := ⟨_, rfl⟩
  obtain ⟨q256, h256⟩ : ∃ q, pickZ raw 256 = q := ⟨_, rfl⟩
  obtain ⟨q4096, h4096⟩ : ∃ q, pickZ raw 4096 = q := ⟨_, rfl⟩
  rw [h4, h12, h256, h4096] at hz
  rw [h4] at p4 b4
  rw [h12] at p12 b12
  rw [h256] at p256 b256
  rw [h4096] at p4096 b4096
  have HZ := Lib.hid hz
  clear hz h4 h12 h256 h4096 h0 h1
  have a12 : IntKind.i64.wrap (1 + q12) = 1 + q12 := wrap_idz (by omega) (by omega)
  have a256 : IntKind.i64.wrap (1 + q256) = 1 + q256 := wrap_idz (by omega) (by omega)
  have a4096 : IntKind.i64.wrap (1 + q4096) = 1 + q4096 := wrap_idz (by omega) (by omega)
  have hm1 : True := trivial
  by_cases hc : 0 < q4
  · go_enter Tryz.func13, Tryz.ntmps13
    go_wp2_with (first
      | (go_at_call 14; have hm0 := hm1; clear hm1 hm0; refine (p4.out _).mono ?_; rintro e w1 ⟨rfl, rfl⟩)
      | (go_at_call 14; refine (p12.out _).mono ?_; rintro e w1 ⟨rfl, rfl⟩))
    go_ret
    refine ⟨?_, rfl⟩
    rw [← HZ.out, if_pos hc]
    first | rfl | simp [a12]
  · cases cols
    · go_enter Tryz.func13, Tryz.ntmps13
      go_wp2_with (first
        | (go_at_call 14; have hm0 := hm1; clear hm1 hm0; refine (p4.out _).mono ?_; rintro e w1 ⟨rfl, rfl⟩)
        | (go_at_call 14; refine (p4096.out _).mono ?_; rintro e w1 ⟨rfl, rfl⟩))
      go_ret
      refine ⟨?_, rfl⟩
      rw [← HZ.out, if_neg (by omega)]
      first | rfl | simp [a4096]
    · go_enter Tryz.func13, Tryz.ntmps13
      go_wp2_with (first
        | (go_at_call 14; have hm0 := hm1; clear hm1 hm0; refine (p4.out _).mono ?_; rintro e w1 ⟨rfl, rfl⟩)
        | (go_at_call 14; refine (p256.out _).mono ?_; rintro e w1 ⟨rfl, rfl⟩))
      go_ret
      refine ⟨?_, rfl⟩
      rw [← HZ.out, if_neg (by omega)]
      first | rfl | simp [a256]
theorem cols_any (at_ n : Int) (gb mb : Nat) (M : GM) (w : World) (hG : GridIs w gb mb M) (hT : Tabs w) (hO : GOk (er M)) :
    Calls Tryz.prog 50 #[.pointer (some ⟨gb, 0, none⟩), .int .i64 at_, .int .i64 n] w (BrR true at_ n M w) := by
  have HB := Lib.hid (brought_any true at_ n gb mb M w hG hT hO)
  go_enter Tryz.func50, Tryz.ntmps50
  go_wp2_with (first | (go_at_call 82; refine (HB.out).mono ?_; rintro e w1 ⟨hx, (⟨h1, rfl⟩ | ⟨h1, (⟨h2, rfl⟩ | ⟨h2, go, mo, Mo, rfl, h3⟩)⟩)⟩))
  · go_ret2
    exact ⟨hx, Or.inl ⟨h1, rfl⟩⟩
  · go_ret2
    exact ⟨hx, Or.inr ⟨h1, Or.inl ⟨h2, rfl⟩⟩⟩
  · go_ret2
    exact ⟨hx, Or.inr ⟨h1, Or.inr ⟨h2, go, mo, Mo, rfl, h3⟩⟩⟩
theorem lines22_any (cols : Bool) (at_ n : Int) (gb mb : Nat) (M : GM) (w : World) (hG : GridIs w gb mb M) (hT : Tabs w) (hO : GOk (er M)) :
    Calls Tryz.prog 15 #[.pointer (some ⟨gb, 0, none⟩), .bool cols, .int .i64 at_, .int .i64 n] w (BrR cols at_ n M w) := by
  cases cols
  · have HB := Lib.hid (rows_any at_ n gb mb M w hG hT hO)
    go_enter Tryz.func15, Tryz.ntmps15
    go_wp2_with (first | (go_at_call 46; refine (HB.out).mono ?_; rintro e w1 ⟨hx, (⟨h1, rfl⟩ | ⟨h1, (⟨h2, rfl⟩ | ⟨h2, go, mo, Mo, rfl, h3⟩)⟩)⟩))
    · go_ret2
      exact ⟨hx, Or.inl ⟨h1, rfl⟩⟩
    · go_ret2
      exact ⟨hx, Or.inr ⟨h1, Or.inl ⟨h2, rfl⟩⟩⟩
    · go_ret2
      exact ⟨hx, Or.inr ⟨h1, Or.inr ⟨h2, go, mo, Mo, rfl, h3⟩⟩⟩
  · have HB := Lib.hid (cols_any at_ n gb mb M w hG hT hO)
    go_enter Tryz.func15, Tryz.ntmps15
    go_wp2_with (first | (go_at_call 50; refine (HB.out).mono ?_; rintro e w1 ⟨hx, (⟨h1, rfl⟩ | ⟨h1, (⟨h2, rfl⟩ | ⟨h2, go, mo, Mo, rfl, h3⟩)⟩)⟩))
    · go_ret2
      exact ⟨hx, Or.inl ⟨h1, rfl⟩⟩
    · go_ret2
      exact ⟨hx, Or.inr ⟨h1, Or.inl ⟨h2, rfl⟩⟩⟩
    · go_ret2
      exact ⟨hx, Or.inr ⟨h1, Or.inr ⟨h2, go, mo, Mo, rfl, h3⟩⟩⟩
theorem all22_any (gb : Nat) (w : World) : Calls Tryz.prog 16 #[.pointer (some ⟨gb, 0, none⟩)] w fun e w' => e = .returned (.func (.func 98) #[] #[.pointer (some ⟨w.heap.size, 0, none⟩), .pointer (some ⟨w.heap.size + 1, 0, none⟩)]) ∧ w' = (w.alloc (.cells #[.pointer (some ⟨gb, 0, none⟩)] 38)).alloc (.cells #[.func (.func 84) #[] #[]] 53) := by
  have hq := fun w f lb => run_eql_func_nil (P := Tryz.prog) w 45 _ _ _ (.func f) #[] lb Tryz.underlying45
  go_enter Tryz.func16, Tryz.ntmps16
  go_wp2_with (first | (go_at_call 47; refine ((callsIn_wide (n := 20)).1 (all_in 20 (by omega) _ _)).mono ?_; rintro e w' ⟨rfl, rfl⟩))
  go_ret
  exact ⟨rfl, rfl⟩
end Go.Proofs.YtlgkaipgdhcajaaGreatDoor
/- Lists of puts that came in. -/
namespace Go.Proofs.YtlgkaipgdhcajaaGreatDoor
open Go.RowKit Go.Sort Go.MapKept Go.Maps Go.Shelf

/-! ### puts that came in -/
structure PI where
  a : Ad
  c : ContT
  p : Option Addr
  cap : Nat
def inC1 (x : PI) : List Value := [.int .i64 x.a.1, .int .i64 x.a.2, .int .i64 x.c.kind, .int .i64 x.c.v.kind, .float .f64 x.c.v.x, .string x.c.v.s, .bool x.c.v.b, .int .i64 x.c.v.f, .int .i64 x.c.t.kind, .int .i64 x.c.t.op, .float .f64 x.c.t.x, .string x.c.t.s, .bool x.c.t.b, .int .i64 x.c.t.f, .int .i64 x.c.t.ref.a.1, .int .i64 x.c.t.ref.a.2, .bool x.c.t.ref.cf, .bool x.c.t.ref.rf, .int .i64 x.c.t.to.a.1, .int .i64 x.c.t.to.a.2, .bool x.c.t.to.cf, .bool x.c.t.to.rf, .slice x.p x.c.t.args.length x.cap]
abbrev PI.cv (x : PI) : Value := contV x.c x.p x.c.t.args.length x.cap
structure PutsIn (w : World) (v : Value) (l : List PI) : Prop where
  sl : SlOf w inC1 23 v l
  args : ∀ x ∈ l, x.c.ok ∧ ∃ n, ArgsIn w n (.slice x.p x.c.t.args.length x.cap) x.c.t.args
theorem SlOf.keptC {α : Type} {w w' : World} {enc : α → List Value} {sz : Nat} {v : Value} {l : List α} (h : SlOf w enc sz v l) (hx : CellsIn w w') : SlOf w' enc sz v l := by
  obtain ⟨a, cap, rfl, h1, h2, h3⟩ := h
  exact ⟨a, cap, rfl, h1, h2, fun hl => let ⟨b, off, e, hc⟩ := h3 hl; ⟨b, off, e, fun j x hx' i u hu => hx _ _ _ (hc j x hx' i u hu)⟩⟩
theorem PutsIn.kept {w w' : World} {v : Value} {l : List PI} (h : PutsIn w v l) (hx : CellsIn w w') : PutsIn w' v l :=
  ⟨h.sl.keptC hx, fun x hx' => let ⟨h1, n, hn⟩ := h.args x hx'; ⟨h1, n, hn.kept hx⟩⟩
theorem PutsIn.xt {w w' : World} {v : Value} {l : List PI} (h : PutsIn w v l) (hx : Xt w w') : PutsIn w' v l := h.kept hx.cellsIn
/-- A put's cells. -/
theorem PutsIn.at {w : World} {a : Option Addr} {m cap i : Nat} {l : List PI} {x : PI} (h : PutsIn w (.slice a m cap) l) (hx : l[i]? = some x) :
    ∃ b off, a = some ⟨b, off, none⟩ ∧ w.cell? ⟨b, off + i * 23, none⟩ = some (.int .i64 x.a.1) ∧ w.cell? ⟨b, off + i * 23 + 1, none⟩ = some (.int .i64 x.a.2) ∧ w.rangeAt b (off + i * 23 + 2) ((inC1 x).drop 2) ∧ x.c.ok ∧ ∃ n, ArgsIn w n (.slice x.p x.c.t.args.length x.cap) x.c.t.args := by
  obtain ⟨a', cap', e, h1, h2, h3⟩ := h.sl
  cases e
  obtain ⟨b, off, rfl, hc⟩ := h3 (by intro e; subst e; simp at hx)
  refine ⟨b, off, rfl, hc i x hx 0 _ rfl, hc i x hx 1 _ rfl, fun j v hv => ?_, h.args x (List.mem_of_getElem? hx)⟩
  rw [List.getElem?_drop] at hv
  have := hc i x hx (2 + j) v hv
  rw [← Nat.add_assoc] at this
  exact this
theorem PutsIn.shape {w : World} {v : Value} {l : List PI} (h : PutsIn w v l) : ∃ a cap, v = .slice a l.length cap ∧ l.length ≤ cap ∧ cap ≤ 9223372036854775807 := by
  obtain ⟨a, cap, e, h1, h2, _⟩ := h.sl
  exact ⟨a, cap, e, h1, h2⟩
abbrev pis (l : List PI) : List (Ad × ContT) := l.map fun x => (x.a, x.c)
theorem allP_take {l : List PI} {i : Nat} {x : PI} (hx : l[i]? = some x) : allP [] (pis (l.take (i + 1))) = putP (allP [] (pis (l.take i))) x.a x.c := by
  unfold pis
  rw [List.take_add_one, hx]
  simp [allP]
theorem pis_ok {l : List PI} {w : World} {v : Value} (h : PutsIn w v l) : ∀ x ∈ pis l, x.2.ok := fun x hx => by
  obtain ⟨y, hy, rfl⟩ := List.mem_map.1 hx
  exact (h.args y hy).1
end Go.Proofs.YtlgkaipgdhcajaaGreatDoor
/- quadrillelaw22's made: a grid of puts (made by mkq2.py). -/
namespace Go.Proofs.YtlgkaipgdhcajaaGreatDoor
open Go.RowKit Go.Sort Go.Maps Go.Shelf
attribute [local go_sem] Oper.semAt_some

theorem GridIs.cellsInG {w w' : World} {gb mb : Nat} {M : GM} (h : GridIs w gb mb M) (hg : w.grownBy w' (some mb)) : CellsIn w w' := by
  obtain ⟨E, hm, _⟩ := h.map
  exact CellsIn.of_grown hm hg
set_option maxRecDepth 100000 in
set_option maxHeartbeats 4000000 in
theorem made22_any (l : List PI) (lv : Value) (w : World) (hT : Tabs w) (hl : PutsIn w lv l) (hs : ∀ x ∈ l, smallT x.c.t) :
    Calls Tryz.prog 12 #[lv] w fun e w' => ∃ gb mb M, e = .returned (.pointer (some ⟨gb, 0, none⟩)) ∧ GridIs w' gb mb M ∧ er M = allP [] (pis l) ∧ Xt w w' := by
  obtain ⟨la, lc, rfl, hlc, hlc2⟩ := hl.shape
  have HT := Lib.hid hT
  have HL := Lib.hid hl
  have HS := Lib.hid hs
  obtain ⟨ma, hma⟩ : ∃ ma, w.heap.size = ma := ⟨_, rfl⟩
  clear hT hl hs
  go_enter Tryz.func12, Tryz.ntmps12
  go_wp2_with (first
    | (go_at_call 43; refine (gnew_any _).mono ?_; rintro e w1 ⟨rfl, hGA, hg1⟩; have hx1 := hg1.xt; clear hg1))
  simp only [hma] at hGA ⊢
  have hwa : w.heap.size ≤ ma := by omega
  have hG0 := Lib.hid hGA
  have hX0 := Lib.hid hx1
  clear hGA hx1
  go_loopw [4] (fun s wr => ∃ (i : Nat) (M : GM), i ≤ l.length ∧ s = .int .i64 i ∧ Hid (GridIs wr (ma + 1) ma M) ∧ Hid (er M = allP [] (pis (l.take i))) ∧ Hid (Xt w wr)) (fun s _ => l.length - (intOf s).toNat)
  case atStart => exact ⟨0, [], Nat.zero_le _, rfl, hG0, rfl, hX0⟩
  case round =>
    clear hG0 hX0
    obtain ⟨i, M, hi, rfl, HG, HE, HX⟩ := hrel
    by_cases hlt : i < l.length
    · obtain ⟨x, hx⟩ : ∃ x, l[i]? = some x := ⟨l[i], by simp [hlt]⟩
      have hki : (i : Int) < (l.length : Int) := by omega
      obtain ⟨b, off, rfl, d0, d1, hr, hok, n, hin⟩ := (HL.out.xt HX.out).at hx
      have HTK := Lib.hid (allP_take hx)
      have HSM := Lib.hid (HS.out x (List.mem_of_getElem? hx))
      have HR := Lib.hid hr
      have HOK := Lib.hid hok
      have HIN := Lib.hid hin
      clear hx hr hok hin
      have hx5 : Xt wr wr.drew := (Xt.refl wr).drew
      have e0 := (hx5.cellsIn _ _ _ d0)
      have e1 := (hx5.cellsIn _ _ _ d1)
      have HRR := Lib.hid (fun W (h : CellsIn wr.drew W) => (⟨h _ _ _ e0, h _ _ _ e1, fun j v hj => h _ _ _ (hx5.cellsIn _ _ _ (HR.out j v hj))⟩ : W.cell? ⟨b, off + i * 23, none⟩ = some (.int .i64 x.a.1) ∧ W.cell? ⟨b, off + i * 23 + 1, none⟩ = some (.int .i64 x.a.2) ∧ W.rangeAt b (off + i * 23 + 2) ((inC1 x).drop 2)))
      have HP := Lib.hid (gput_any n (ma + 1) ma M x.a x.c x.p x.cap wr.drew (HG.out.xt hx5) HOK.out (HT.out.xt (HX.out.trans hx5)) HSM.out (HIN.out.xt hx5))
      have HX6 := Lib.hid (HX.out.trans hx5)
      have HCI := Lib.hid (fun W (h : wr.drew.grownBy W (some ma)) => (HG.out.xt hx5).cellsInG h)
      clear hx5
      go_wp2_with fail
      refine wp_region_held_drew (S := fun W => W.cell? ⟨b, off + i * 23, none⟩ = some (.int .i64 x.a.1) ∧ W.cell? ⟨b, off + i * 23 + 1, none⟩ = some (.int .i64 x.a.2) ∧ W.rangeAt b (off + i * 23 + 2) ((inC1 x).drop 2)) (by kernel_rfl) (HRR.out _ (CellsIn.refl _)) (fun hHeld => ?_)
      refine wpAnyH_take (i := 0) (oi := _) (v := ?_) rfl (by kernel_rfl) (by kernel_rfl) (by kernel_rfl) (fun _ _ _ h => h) (Or.inl ⟨by rfl, ?_⟩) (by assumption) ?_
      rotate_left
      · intro w hSw; (try dsimp only at hSw); obtain ⟨k0, k1, kr⟩ := hSw; clear kr; go_simp; first | done | with_reducible rfl
      try simp only [Act.put, List.getElem_toArray, List.getElem_cons_zero, List.setIfInBounds_toArray, List.set_cons_zero, List.set_cons_succ]
      refine wpAnyH_take (i := 1) (oi := _) (v := ?_) rfl (by kernel_rfl) (by kernel_rfl) (by kernel_rfl) (fun _ _ _ h => h) (Or.inl ⟨by rfl, ?_⟩) (by assumption) ?_
      rotate_left
      · intro w hSw; (try dsimp only at hSw); obtain ⟨k0, k1, kr⟩ := hSw; clear kr; go_simp; first | done | with_reducible rfl
      try simp only [Act.put, List.getElem_toArray, List.getElem_cons_zero, List.getElem_cons_succ, List.setIfInBounds_toArray, List.set_cons_zero, List.set_cons_succ]
      refine wpAnyH_take (i := 2) (oi := _) (v := ?_) rfl (by kernel_rfl) (by kernel_rfl) (by kernel_rfl) (fun _ _ _ h => h) (Or.inl ⟨by rfl, ?_⟩) (by assumption) ?_
      rotate_left
      · intro w hSw; (try dsimp only at hSw); obtain ⟨k0, k1, kr⟩ := hSw; clear kr; go_simp; first | done | with_reducible rfl
      try simp only [Act.put, List.getElem_toArray, List.getElem_cons_zero, List.getElem_cons_succ, List.setIfInBounds_toArray, List.set_cons_zero, List.set_cons_succ]
      refine wpAnyH_take (i := 3) (oi := _) (v := ?_) rfl (by kernel_rfl) (by kernel_rfl) (by kernel_rfl) (fun _ _ _ h => h) (Or.inl ⟨by rfl, ?_⟩) (by assumption) ?_
      rotate_left
      · intro w hSw; (try dsimp only at hSw); obtain ⟨k0, k1, kr⟩ := hSw; clear kr; go_simp; first | done | with_reducible rfl
      try simp only [Act.put, List.getElem_toArray, List.getElem_cons_zero, List.getElem_cons_succ, List.setIfInBounds_toArray, List.set_cons_zero, List.set_cons_succ]
      refine wpAnyH_take (i := 4) (oi := _) (v := ?_) rfl (by kernel_rfl) (by kernel_rfl) (by kernel_rfl) (fun _ _ _ h => h) (Or.inl ⟨by rfl, ?_⟩) (by assumption) ?_
      rotate_left
      · intro w hSw; (try dsimp only at hSw); obtain ⟨k0, k1, kr⟩ := hSw; clear kr; go_simp; first | done | with_reducible rfl
      try simp only [Act.put, List.getElem_toArray, List.getElem_cons_zero, List.getElem_cons_succ, List.setIfInBounds_toArray, List.set_cons_zero, List.set_cons_succ]
      refine wpAnyH_take (i := 5) (oi := _) (v := ?_) rfl (by kernel_rfl) (by kernel_rfl) (by kernel_rfl) (fun _ _ _ h => h) (Or.inl ⟨by rfl, ?_⟩) (by assumption) ?_
      rotate_left
      · intro w hSw; (try dsimp only at hSw); obtain ⟨k0, k1, kr⟩ := hSw; clear kr; go_simp; first | done | with_reducible rfl
      try simp only [Act.put, List.getElem_toArray, List.getElem_cons_zero, List.getElem_cons_succ, List.setIfInBounds_toArray, List.set_cons_zero, List.set_cons_succ]
      refine wpAnyH_take (i := 6) (oi := _) (v := ?_) rfl (by kernel_rfl) (by kernel_rfl) (by kernel_rfl) (fun _ _ _ h => h) (Or.inl ⟨by rfl, ?_⟩) (by assumption) ?_
      rotate_left
      · intro w hSw; (try dsimp only at hSw); obtain ⟨k0, k1, kr⟩ := hSw; clear kr; go_simp; first | done | with_reducible rfl
      try simp only [Act.put, List.getElem_toArray, List.getElem_cons_zero, List.getElem_cons_succ, List.setIfInBounds_toArray, List.set_cons_zero, List.set_cons_succ]
      refine wpAnyH_take (i := 7) (oi := _) (v := ?_) rfl (by kernel_rfl) (by kernel_rfl) (by kernel_rfl) (fun _ _ _ h => h) (Or.inl ⟨by rfl, ?_⟩) (by assumption) ?_
      rotate_left
      · intro w hSw; (try dsimp only at hSw); obtain ⟨k0, k1, kr⟩ := hSw; clear kr; go_simp; first | done | with_reducible rfl
      try simp only [Act.put, List.getElem_toArray, List.getElem_cons_zero, List.getElem_cons_succ, List.setIfInBounds_toArray, List.set_cons_zero, List.set_cons_succ]
      refine wpAnyH_take (i := 8) (oi := _) (v := ?_) rfl (by kernel_rfl) (by kernel_rfl) (by kernel_rfl) (fun _ _ _ h => h) (Or.inl ⟨by rfl, ?_⟩) (by assumption) ?_
      rotate_left
      · intro w hSw; (try dsimp only at hSw); obtain ⟨k0, k1, kr⟩ := hSw; clear kr; go_simp; first | done | with_reducible rfl
      try simp only [Act.put, List.getElem_toArray, List.getElem_cons_zero, List.getElem_cons_succ, List.setIfInBounds_toArray, List.set_cons_zero, List.set_cons_succ]
      refine wpAnyH_take (i := 9) (oi := _) (v := ?_) rfl (by kernel_rfl) (by kernel_rfl) (by kernel_rfl) (fun _ _ _ h => h) (Or.inl ⟨by rfl, ?_⟩) (by assumption) ?_
      rotate_left
      · intro w hSw; (try dsimp only at hSw); obtain ⟨k0, k1, kr⟩ := hSw; clear kr; go_simp; first | done | with_reducible rfl
      try simp only [Act.put, List.getElem_toArray, List.getElem_cons_zero, List.getElem_cons_succ, List.setIfInBounds_toArray, List.set_cons_zero, List.set_cons_succ]
      refine wpAnyH_take (i := 10) (oi := _) (v := .agg ((inC1 x).drop 2).toArray) rfl (by kernel_rfl) (by kernel_rfl) (by kernel_rfl) (fun _ _ _ h => h) (Or.inl ⟨by rfl, ?_⟩) (by assumption) ?_
      · intro w hSw; exact exec_load_mid 50 _ (by rfl) b (off + i * 23 + 2) (by rfl) ((inC1 x).drop 2) _ hSw.2.2 Tryz.underlying50 rfl (by kernel_rfl)
      try simp only [Act.put, List.getElem_toArray, List.getElem_cons_zero, List.getElem_cons_succ, List.setIfInBounds_toArray, List.set_cons_zero, List.set_cons_succ]
      refine wpAnyH_ready (rs := [11]) (by kernel_rfl) (by simp) ?_
      refine AllReadyH.cons (o := _) rfl (fun K hK => ?_) AllReadyH.nil
      go_simp
      refine (HP.out).mono ?_
      rintro e w6 ⟨z, rfl, hG6, hg6⟩
      refine hK.out _ _ (HRR.out _ (HCI.out _ hg6)) (fun hHeld2 => ?_)
      clear hK K
      try simp only [Act.put, List.getElem_toArray, List.getElem_cons_zero, List.getElem_cons_succ, List.setIfInBounds_toArray, List.set_cons_zero, List.set_cons_succ]
      refine wpAnyH_done (by kernel_rfl) ?_ _
      have HG6 := Lib.hid hG6
      have Hg6 := Lib.hid hg6
      clear hG6 hg6 d0 d1 e0 e1 hHeld hHeld2
      go_wp2_with fail
      go_roundw
      case rel => exact ⟨i + 1, putTo M x.a x.c z, by omega, by go_num, HG6.out, by unfold Hid; rw [er_put, HE.out, HTK.out], HX6.out.grownB Hg6.out (fun m hm => by cases hm; omega)⟩
      case measure => simp [intOf]; omega
    · obtain rfl : i = l.length := by omega
      clear hi hlt
      go_wp2_with fail
      go_ret
      exact ⟨ma + 1, ma, M, rfl, HG.out, by rw [HE.out, List.take_length], HX.out⟩
end Go.Proofs.YtlgkaipgdhcajaaGreatDoor
/- move.Formula (made by mkn1.py). -/
namespace Go.Proofs.YtlgkaipgdhcajaaGreatDoor
open Go.RowKit Go.Sort

abbrev zeroN : NodeT := .mk 0 0 0 ⟨#[]⟩ false 0 zR zR []
def formP (cols : Bool) (at_ cnt : Int) (t : NodeT) : NodeT × Int :=
  if checkT t ≠ 0 then (zeroN, checkT t) else if (madeL (manyL cols) at_ cnt).2 = false then (zeroN, 1) else (turnT (cellF cols ⟨at_, cnt, manyL cols⟩) (areaF cols ⟨at_, cnt, manyL cols⟩) (copyT t), 0)
/-- A formula and its error, in memory of its own. -/
def OutR (r : NodeT) (code : Int) (w : World) (e : Ending) (w' : World) : Prop :=
  ∃ a2 c2 n', e = .returned (.tuple #[nodeV r a2 r.args.length c2, .int .i64 code]) ∧ SepIn (fun b => w.heap.size ≤ b ∧ b < w'.heap.size) w' n' (.slice a2 r.args.length c2) r.args ∧ Xt w w'
theorem all15 (u : NodeT) (a : Option Addr) (n c : Nat) : (nodeC u (.slice a n c)).toArray.all (·.oneCell') = true := all_oneCell_toArray (nodeC_one u _ rfl)
set_option maxRecDepth 100000 in
set_option maxHeartbeats 4000000 in
theorem formula_any (n : Nat) (t : NodeT) (a : Option Addr) (cap : Nat) (cols : Bool) (at_ cnt : Int) (w : World) (hok : t.ok) (hT : Tabs w) (hsm : smallT t) (hin : ArgsIn w n (.slice a t.args.length cap) t.args) :
    Calls Tryz.prog 8 #[nodeV t a t.args.length cap, .bool cols, .int .i64 at_, .int .i64 cnt] w (OutR (formP cols at_ cnt t).1 (formP cols at_ cnt t).2 w) := by
  obtain ⟨B, hB⟩ : ∃ B, w.heap.size = B := ⟨_, rfl⟩
  have HBw := Lib.hid hB
  obtain ⟨w0, hw0⟩ : ∃ w0, w.alloc (.cells #[.int .i64 t.kind, .int .i64 t.op, .float .f64 t.x, .string t.s, .bool t.b, .int .i64 t.f, .int .i64 t.ref.a.1, .int .i64 t.ref.a.2, .bool t.ref.cf, .bool t.ref.rf, .int .i64 t.to.a.1, .int .i64 t.to.a.2, .bool t.to.cf, .bool t.to.rf, .slice a t.args.length cap] 29) = w0 := ⟨_, rfl⟩
  have hs0 : w0.heap.size = B + 1 := by rw [← hw0, ← hB]; simp
  obtain ⟨w1, hw1⟩ : ∃ w1, w0.alloc (.cells #[.int .i64 0, .int .i64 0, .float .f64 0, .string ⟨#[]⟩, .bool false, .int .i64 0, .int .i64 0, .int .i64 0, .bool false, .bool false, .int .i64 0, .int .i64 0, .bool false, .bool false, .slice none 0 0] 29) = w1 := ⟨_, rfl⟩
  have hs1 : w1.heap.size = B + 1 + 1 := by rw [← hw1]; simp [hs0]
  have hx1 : Xt w w1 := by rw [← hw1, ← hw0]; exact ((Xt.refl _).alloc _).alloc _
  have r0 : w1.heap[B]? = some (.cells #[.int .i64 t.kind, .int .i64 t.op, .float .f64 t.x, .string t.s, .bool t.b, .int .i64 t.f, .int .i64 t.ref.a.1, .int .i64 t.ref.a.2, .bool t.ref.cf, .bool t.ref.rf, .int .i64 t.to.a.1, .int .i64 t.to.a.2, .bool t.to.cf, .bool t.to.rf, .slice a t.args.length cap] 29 (0, 0)) := rowX (w := w0) (by rw [← hw1]; exact (Xt.refl _).alloc _) (by rw [← hw0, ← hB]; exact (MapKept.heap_alloc w _).1)
  have r1 : w1.heap[B + 1]? = some (.cells #[.int .i64 0, .int .i64 0, .float .f64 0, .string ⟨#[]⟩, .bool false, .int .i64 0, .int .i64 0, .int .i64 0, .bool false, .bool false, .int .i64 0, .int .i64 0, .bool false, .bool false, .slice none 0 0] 29 (0, 0)) := by rw [← hw1, ← hs0]; exact (MapKept.heap_alloc w0 _).1
  have HX1 := Lib.hid hx1
  have HR0 := Lib.hid r0
  have HR1 := Lib.hid r1
  have HSM := Lib.hid hsm
  have HIN := Lib.hid hin
  have HCH := Lib.hid (Check_any n t a cap w1 hok (hT.xt hx1) (hin.xt hx1))
  have HM := Lib.hid (lmade_any cols at_ cnt)
  obtain ⟨ok, hmk⟩ : ∃ ok, (madeL (manyL cols) at_ cnt).2 = ok := ⟨_, rfl⟩
  have HL : Hid ((madeL (manyL cols) at_ cnt).1 = ⟨at_, cnt, manyL cols⟩) := rfl
  simp only [hmk] at HM
  rw [HL.out] at HM
  have HMK := Lib.hid hmk
  obtain ⟨k, hk⟩ : ∃ k, checkT t = k := ⟨_, rfl⟩
  rw [hk] at HCH
  have HK := Lib.hid hk
  clear hok hT hsm hin hx1 r0 r1 hmk HL hk
  go_enter Tryz.func8, Tryz.ntmps8
  by_cases hk0 : k = 0
  rotate_left
  · have hkb : (k != 0) = true := by simpa using hk0
    go_wp2_with (first
      | (refine wpList_load_row (P := Tryz.prog) rfl 29 _ rfl B rfl 29 _ (0, 0) _ HR0.out Tryz.underlying29 rfl (by kernel_rfl) ?_)
      | (go_at_call 33; refine (HCH.out).mono ?_; rintro e w2 ⟨rfl, hx2⟩; have HX2 := Lib.hid hx2; clear hx2)
      | (refine wpList_store_row (P := Tryz.prog) rfl 29 _ _ rfl (B + 1) #[.int .i64 0, .int .i64 0, .float .f64 0, .string ⟨#[]⟩, .bool false, .int .i64 0, .int .i64 0, .int .i64 0, .bool false, .bool false, .int .i64 0, .int .i64 0, .bool false, .bool false, .slice none 0 0] rfl rfl 29 _ (rowX HX2.out HR1.out) (by kernel_rfl) (by kernel_rfl) (all15 zeroN none 0 0) ?_))
    (try simp only [Exit.inBlock, Exit.then])
    refine bodyPost_ret (v := .tuple #[.agg #[.int .i64 0, .int .i64 0, .float .f64 0, .string ⟨#[]⟩, .bool false, .int .i64 0, .int .i64 0, .int .i64 0, .bool false, .bool false, .int .i64 0, .int .i64 0, .bool false, .bool false, .slice none 0 0], .int .i64 k]) ?_ rfl ?_
    · rw [results_cell_tmp rfl]
      show ((asAddr (.pointer (some ⟨B + 1, 0, none⟩))).run _ _).andThen _ = _
      simp only [asAddr, Sem.run_pure, Result.andThen_ok, run_loadVar_row _ _ _ 29 #[.int .i64 0, .int .i64 0, .float .f64 0, .string ⟨#[]⟩, .bool false, .int .i64 0, .int .i64 0, .int .i64 0, .bool false, .bool false, .int .i64 0, .int .i64 0, .bool false, .bool false, .slice none 0 0] _ _ (setRow_heap _ _ _ _ _ _ (rowX HX2.out HR1.out)) Tryz.underlying29 rfl (by kernel_rfl)]
      rfl
    · have hP : formP cols at_ cnt t = (zeroN, k) := by unfold formP; rw [if_pos (by rw [HK.out]; exact hk0), HK.out]
      rw [hP]
      exact ⟨none, 0, 0, rfl, SepIn.nil 0, (HX1.out.trans HX2.out).grownB (setRow_grown _ _ _) (fun q hq => by cases hq; have := HBw.out; omega)⟩
  subst hk0
  cases ok
  · go_wp2_with (first
      | (refine wpList_load_row (P := Tryz.prog) rfl 29 _ rfl B rfl 29 _ (0, 0) _ HR0.out Tryz.underlying29 rfl (by kernel_rfl) ?_)
      | (go_at_call 33; refine (HCH.out).mono ?_; rintro e w2 ⟨rfl, hx2⟩; have HX2 := Lib.hid hx2; clear hx2)
      | (go_at_call 34; refine (HM.out _).mono ?_; rintro e w3 ⟨rfl, hx3⟩; obtain ⟨wA, hwA⟩ : ∃ wA, w3.alloc (.cells #[.int .i64 at_, .int .i64 cnt, .int .i64 (manyL cols)] 79) = wA := ⟨_, rfl⟩; have HXA : Hid (Xt w1 wA) := (by unfold Hid; rw [← hwA]; exact (HX2.out.trans hx3).alloc _); clear hx3)
      | (refine wpList_store_row (P := Tryz.prog) rfl 29 _ _ rfl (B + 1) #[.int .i64 0, .int .i64 0, .float .f64 0, .string ⟨#[]⟩, .bool false, .int .i64 0, .int .i64 0, .int .i64 0, .bool false, .bool false, .int .i64 0, .int .i64 0, .bool false, .bool false, .slice none 0 0] rfl rfl 29 _ (rowX HXA.out HR1.out) (by kernel_rfl) (by kernel_rfl) (all15 zeroN none 0 0) ?_))
    (try simp only [Exit.inBlock, Exit.then])
    refine bodyPost_ret (v := .tuple #[.agg #[.int .i64 0, .int .i64 0, .float .f64 0, .string ⟨#[]⟩, .bool false, .int .i64 0, .int .i64 0, .int .i64 0, .bool false, .bool false, .int .i64 0, .int .i64 0, .bool false, .bool false, .slice none 0 0], .int .i64 1]) ?_ rfl ?_
    · rw [results_cell_tmp rfl]
      show ((asAddr (.pointer (some ⟨B + 1, 0, none⟩))).run _ _).andThen _ = _
      simp only [asAddr, Sem.run_pure, Result.andThen_ok, run_loadVar_row _ _ _ 29 #[.int .i64 0, .int .i64 0, .float .f64 0, .string ⟨#[]⟩, .bool false, .int .i64 0, .int .i64 0, .int .i64 0, .bool false, .bool false, .int .i64 0, .int .i64 0, .bool false, .bool false, .slice none 0 0] _ _ (setRow_heap _ _ _ _ _ _ (rowX HXA.out HR1.out)) Tryz.underlying29 rfl (by kernel_rfl)]
      rfl
    · have hP : formP cols at_ cnt t = (zeroN, 1) := by unfold formP; rw [if_neg (by rw [HK.out]; simp), if_pos HMK.out]
      rw [hP]
      exact ⟨none, 0, 0, rfl, SepIn.nil 0, (HX1.out.trans HXA.out).grownB (setRow_grown _ _ _) (fun q hq => by cases hq; have := HBw.out; omega)⟩
  · go_wp2_with (first
      | (refine wpList_load_row (P := Tryz.prog) rfl 29 _ rfl B rfl 29 _ (0, 0) _ HR0.out Tryz.underlying29 rfl (by kernel_rfl) ?_)
      | (go_at_call 33; refine (HCH.out).mono ?_; rintro e w2 ⟨rfl, hx2⟩; have HX2 := Lib.hid hx2; clear hx2)
      | (go_at_call 34; refine (HM.out _).mono ?_; rintro e w3 ⟨rfl, hx3⟩; obtain ⟨wA, hwA⟩ : ∃ wA, w3.alloc (.cells #[.int .i64 at_, .int .i64 cnt, .int .i64 (manyL cols)] 79) = wA := ⟨_, rfl⟩; have HXA : Hid (Xt w1 wA) := (by unfold Hid; rw [← hwA]; exact (HX2.out.trans hx3).alloc _); have HRL : Hid (wA.heap[w3.heap.size]? = some (.cells #[.int .i64 at_, .int .i64 cnt, .int .i64 (manyL cols)] 79 (0, 0))) := (by unfold Hid; rw [← hwA]; exact (MapKept.heap_alloc w3 _).1); clear hx3))
    have HF : Hid (∀ V, Wr (fun b => b = B + 1) wA V → (V.cell? ⟨w3.heap.size, 0, none⟩ = some (.int .i64 at_) ∧ V.cell? ⟨w3.heap.size, 1, none⟩ = some (.int .i64 cnt) ∧ V.cell? ⟨w3.heap.size, 2, none⟩ = some (.int .i64 (manyL cols))) ∧ V.heap[B]? = some (.cells #[.int .i64 t.kind, .int .i64 t.op, .float .f64 t.x, .string t.s, .bool t.b, .int .i64 t.f, .int .i64 t.ref.a.1, .int .i64 t.ref.a.2, .bool t.ref.cf, .bool t.ref.rf, .int .i64 t.to.a.1, .int .i64 t.to.a.2, .bool t.to.cf, .bool t.to.rf, .slice a t.args.length cap] 29 (0, 0))) := Lib.hid fun V hV => by
      have hl := HRL.out
      have hb := rowX HXA.out HR0.out
      have hne : w3.heap.size ≠ B + 1 := fun e => by
        have := (rowX HXA.out HR1.out)
        rw [← e, hl] at this
        cases this
      have h1 := (hV.block _ (Array.getElem?_eq_some_iff.1 hl).1 hne).trans hl
      exact ⟨(cells3 h1).1, (hV.block B (Array.getElem?_eq_some_iff.1 hb).1 (by omega)).trans hb⟩
    refine wp_region_held_drew (S := fun V => Wr (fun b => b = B + 1) wA V) (by kernel_rfl) (Wr.of_xt (Xt.refl wA).drew) (fun hHeld => ?_)
    refine wpAnyH_take (i := 0) (oi := _) (v := ?_) rfl (by kernel_rfl) (by kernel_rfl) (by kernel_rfl) (fun _ _ _ h => h) (Or.inl ⟨by rfl, ?_⟩) (by assumption) ?_
    rotate_left
    · intro V hSw; obtain ⟨⟨u0, u1, u2⟩, _⟩ := HF.out V hSw; go_simp; first | done | with_reducible rfl
    try simp only [Act.put, List.getElem_toArray, List.getElem_cons_zero, List.setIfInBounds_toArray, List.set_cons_zero, List.set_cons_succ]
    refine wpAnyH_take (i := 1) (oi := _) (v := ?_) rfl (by kernel_rfl) (by kernel_rfl) (by kernel_rfl) (fun _ _ _ h => h) (Or.inl ⟨by rfl, ?_⟩) (by assumption) ?_
    rotate_left
    · intro V hSw; obtain ⟨⟨u0, u1, u2⟩, _⟩ := HF.out V hSw; go_simp; first | done | with_reducible rfl
    try simp only [Act.put, List.getElem_toArray, List.getElem_cons_zero, List.getElem_cons_succ, List.setIfInBounds_toArray, List.set_cons_zero, List.set_cons_succ]
    refine wpAnyH_take (i := 3) (oi := _) (v := .agg #[.int .i64 t.kind, .int .i64 t.op, .float .f64 t.x, .string t.s, .bool t.b, .int .i64 t.f, .int .i64 t.ref.a.1, .int .i64 t.ref.a.2, .bool t.ref.cf, .bool t.ref.rf, .int .i64 t.to.a.1, .int .i64 t.to.a.2, .bool t.to.cf, .bool t.to.rf, .slice a t.args.length cap]) rfl (by kernel_rfl) (by kernel_rfl) (by kernel_rfl) (fun _ _ _ h => h) (Or.inl ⟨by rfl, ?_⟩) (by assumption) ?_
    · intro V hSw; exact exec_load_row 29 _ (by rfl) B (by rfl) 29 _ _ _ (HF.out V hSw).2 Tryz.underlying29 rfl (by kernel_rfl)
    try simp only [Act.put, List.getElem_toArray, List.getElem_cons_zero, List.getElem_cons_succ, List.setIfInBounds_toArray, List.set_cons_zero, List.set_cons_succ]
    refine wpAnyH_ready (rs := [2]) (by kernel_rfl) (by simp) ?_
    refine AllReadyH.cons (o := _) rfl (fun K hK => ?_) AllReadyH.nil
    go_simp
    refine (road_any cols ⟨at_, cnt, manyL cols⟩ _).mono ?_
    rintro e w4 ⟨pc, pl, rfl, hLA, hx4⟩
    have HX4 : Hid (Xt wA w4) := (Xt.refl wA).drew.trans hx4
    have HLA := Lib.hid hLA
    have hpl : pc < w4.heap.size ∧ pl < w4.heap.size := ⟨World.block_lt_of_cell? w4 _ hLA.c, World.block_lt_of_cell? w4 _ hLA.c0⟩
    have HTU := Lib.hid (turned_any (lines_road (m := w4.heap.size) cols ⟨at_, cnt, manyL cols⟩ pc pl hpl) n t a cap w4 ⟨hLA, Nat.le_refl _⟩ HSM.out (HIN.out.xt (HX1.out.trans (HXA.out.trans HX4.out))) (fault_okAs t false (checkT_zero HK.out)))
    refine hK.out _ _ (Wr.of_xt HX4.out) (fun hHeld2 => ?_)
    clear hLA hx4
    clear hK K
    try simp only [Act.put, List.getElem_toArray, List.getElem_cons_zero, List.getElem_cons_succ, List.setIfInBounds_toArray, List.set_cons_zero, List.set_cons_succ]
    refine wpAnyH_ready (rs := [4]) (by kernel_rfl) (by simp) ?_
    refine AllReadyH.cons (o := _) rfl (fun K hK => ?_) AllReadyH.nil
    go_simp
    obtain ⟨r, hr⟩ : ∃ r, turnT (cellF cols ⟨at_, cnt, manyL cols⟩) (areaF cols ⟨at_, cnt, manyL cols⟩) (copyT t) = r := ⟨_, rfl⟩
    rw [hr] at HTU
    refine (HTU.out).mono ?_
    rintro e w5 ⟨a2, c2, rfl, hS5, hx5⟩
    have HX5 : Hid (Xt wA w5) := HX4.out.trans hx5
    have HS5 := Lib.hid hS5
    have hs45 := HX4.out.size
    have HRS := Lib.hid hr
    refine hK.out _ _ (Wr.of_xt HX5.out) (fun hHeld3 => ?_)
    clear hS5 hx5 hr
    clear hK K
    try simp only [Act.put, List.getElem_toArray, List.getElem_cons_zero, List.getElem_cons_succ, List.setIfInBounds_toArray, List.set_cons_zero, List.set_cons_succ]
    refine wpAnyH_ready (rs := [5]) (by kernel_rfl) (by simp) ?_
    refine AllReadyH.cons (o := _) rfl (fun K hK => ?_) AllReadyH.nil
    rw [if_pos (by rfl)]
    refine wp_store_row (P := Tryz.prog) 29 _ _ rfl (B + 1) (nodeC r (.slice a2 r.args.length c2)).toArray rfl rfl 29 _ (rowX HX5.out (rowX HXA.out HR1.out)) (by kernel_rfl) (by kernel_rfl) (all15 r a2 r.args.length c2) ?_
    refine hK.out _ _ ((Wr.of_xt HX5.out).trans (Wr.row _ rfl)) (fun hHeld4 => ?_)
    clear hK K
    try simp only [Act.put, List.getElem_toArray, List.getElem_cons_zero, List.getElem_cons_succ]
    refine wpAnyH_ready (rs := [6]) (by kernel_rfl) (by simp) ?_
    refine AllReadyH.cons (o := _) rfl (fun K hK => ?_) AllReadyH.nil
    go_simp
    refine hK.out _ _ ((Wr.of_xt HX5.out).trans (Wr.row _ rfl)) (fun hHeld5 => ?_)
    clear hK K
    try simp only [Act.put, List.getElem_toArray, List.getElem_cons_zero, List.getElem_cons_succ, List.setIfInBounds_toArray, List.set_cons_zero, List.set_cons_succ]
    refine wpAnyH_done (by kernel_rfl) ?_ _
    go_wp2_with fail
    (try simp only [Exit.inBlock, Exit.then])
    refine bodyPost_ret (v := .tuple #[.agg (nodeC r (.slice a2 r.args.length c2)).toArray, .int .i64 0]) ?_ rfl ?_
    · rw [results_cell_tmp rfl]
      show ((asAddr (.pointer (some ⟨B + 1, 0, none⟩))).run _ _).andThen _ = _
      simp only [asAddr, Sem.run_pure, Result.andThen_ok, run_loadVar_row _ _ _ 29 (nodeC r (.slice a2 r.args.length c2)).toArray _ _ (setRow_heap _ _ _ _ _ _ (rowX HX5.out (rowX HXA.out HR1.out))) Tryz.underlying29 rfl (by kernel_rfl)]
      rfl
    · have hP : formP cols at_ cnt t = (r, 0) := by unfold formP; rw [if_neg (by rw [HK.out]; simp), if_neg (by rw [HMK.out]; simp), HRS.out]
      rw [hP]
      have hBw := HBw.out
      have hwA := HX1.out.size
      have hA2 := HXA.out.size
      refine ⟨a2, c2, n, rfl, ?_, ?_⟩
      · refine (HS5.out.keep (fun b hb hlt => setRow_other _ _ _ _ (by have := hb.1; omega))).weak (fun b hb hlt => ⟨by have := hb.1; omega, hlt⟩)
      · exact ((HX1.out.trans HXA.out).trans HX5.out).grownB (setRow_grown _ _ _) (fun q hq => by cases hq; omega)
end Go.Proofs.YtlgkaipgdhcajaaGreatDoor
/- quadrilleref22: how many lines; their places; a span of them. -/
namespace Go.Proofs.YtlgkaipgdhcajaaGreatDoor
open Go.RowKit Go.Sort

abbrev intC (x : Int) : List Value := [.int .i64 x]
theorem intC_len (x : Int) : (intC x).length = 1 := rfl
/-- Where a line is brought; 0: it goes. -/
def placeV (m a n k : Int) : Int := if k < 1 then 0 else if k < a then k else if 0 ≤ n then (if k + n ≤ m then k + n else 0) else (if k < a - n then 0 else k + n)
def nextV (a n k : Int) : Int := if k ≤ a then k else if 0 ≤ n then k + n else if k ≤ a - n then a else k + n
def placesK (m : Nat) (a n : Int) (k : Nat) : List Int := (List.range (m + 1)).map fun (j : Nat) => if j < k then placeV m a n j else 0
def placesL (m : Nat) (a n : Int) : List Int := placesK m a n (m + 1)
theorem placesK_len (m : Nat) (a n : Int) (k : Nat) : (placesK m a n k).length = m + 1 := by simp [placesK]
theorem placesK_zero (m : Nat) (a n : Int) : placesK m a n 1 = List.replicate (m + 1) 0 := by
  refine List.ext_getElem (by simp [placesK]) fun i h1 h2 => ?_
  simp only [placesK, List.getElem_map, List.getElem_range, List.getElem_replicate]
  split
  · have : i = 0 := by omega
    subst this; simp [placeV]
  · rfl
theorem placesK_set {m : Nat} {a n : Int} {k : Nat} {v : Int} (_hk : k ≤ m) (hv : v = placeV m a n k) : (placesK m a n k).set k v = placesK m a n (k + 1) := by
  subst hv
  refine List.ext_getElem (by simp [placesK]) fun i h1 h2 => ?_
  simp only [placesK, List.getElem_set, List.getElem_map, List.getElem_range]
  by_cases e : k = i
  · subst e; simp
  · rw [if_neg e]
    by_cases h : i < k
    · rw [if_pos h, if_pos (by omega)]
    · rw [if_neg h, if_neg (by omega)]
theorem placesK_skip {m : Nat} {a n : Int} {k : Nat} (hv : placeV m a n k = 0) : placesK m a n k = placesK m a n (k + 1) := by
  unfold placesK
  refine List.map_congr_left fun j _ => ?_
  by_cases h : j < k
  · rw [if_pos h, if_pos (by omega)]
  · rw [if_neg h]
    by_cases e : j = k
    · subst e; rw [if_pos (by omega), hv]
    · rw [if_neg (by omega)]
theorem placesL_at {m : Nat} {a n : Int} {k : Nat} (hk : k ≤ m) : (placesL m a n)[k]? = some (placeV m a n k) := by
  unfold placesL placesK
  rw [List.getElem?_map, List.getElem?_range (by omega)]
  simp; omega
theorem rowInt_set {w : World} {g : Nat} {T : TypeId} {cap : Nat} {d : List Int} (h : RowL w g T cap 1 intC d) {j : Nat} (hj : j < d.length) (y : Int) : RowL (w.setCell ⟨g, j, none⟩ (.int .i64 y)) g T cap 1 intC (d.set j y) := by
  have := h.set intC_len hj y
  simpa [World.setCells] using this
theorem infoInt : (Tryz.prog.info? 3).map (fun i => (i.zero, i.size, i.bytes)) = some (some (.int .i64 0), 1, 8) := by kernel_rfl
theorem run_makeInts (m : Nat) (hm : m ≤ 4096) (w : World) : ∃ w', (Instr.makeSlice 90 (.int .i64 ((m : Int) + 1)) (.int .i64 ((m : Int) + 1))).run Tryz.prog w = .ok (.slice (some ⟨w.heap.size, 0, none⟩) (m + 1) (m + 1)) w' ∧ RowL w' w.heap.size 3 (m + 1) 1 intC (List.replicate (m + 1) 0) ∧ Xt w w' := by
  obtain ⟨i0, hi, hz0, hz1, hz2⟩ := info_parts infoInt
  have h := run_makeSlice (P := Tryz.prog) w 90 3 i0 (.int .i64 0) Tryz.underlying90 hi hz0 .i64 .i64 ((m : Int) + 1) ((m : Int) + 1) (by omega) (Int.le_refl _) (by rw [hz1]; omega) (by rw [hz2]; omega) (by omega)
  have e : ((m : Int) + 1).toNat = m + 1 := by omega
  rw [e, hz1] at h
  refine ⟨_, h, ⟨_, (MapKept.heap_alloc w _).1, by simp [size_madeCells], by simp, fun j x hx i u hu => ?_⟩, (Xt.refl w).alloc _⟩
  obtain ⟨hj, rfl⟩ := List.getElem?_eq_some_iff.1 hx
  simp only [List.length_replicate] at hj
  cases i with
  | zero =>
    simp only [intC, List.getElem?_cons_zero, List.getElem_replicate, Option.some.injEq] at hu
    subst hu
    simp only [madeCells, Value.cells, Nat.mul_one, Nat.add_zero]
    rw [Array.getElem?_map, Array.getElem?_range]
    simp [hj, Nat.mod_one]
  | succ i => simp [intC] at hu
/-- The table that Places makes. -/
def PlacesR (m : Nat) (a n : Int) (w : World) (e : Ending) (w' : World) : Prop := ∃ g, e = .returned (.slice (some ⟨g, 0, none⟩) (m + 1) (m + 1)) ∧ RowL w' g 3 (m + 1) 1 intC (placesL m a n) ∧ w.heap.size ≤ g ∧ Xt w w'
set_option maxRecDepth 100000 in
set_option maxHeartbeats 4000000 in
theorem places_any (m : Nat) (a n : Int) (w : World) (hm : m ≤ 4096) (ha : 1 ≤ a ∧ a ≤ m) (hn : -(m : Int) ≤ n ∧ n ≤ m) :
    Calls Tryz.prog 40 #[.int .i64 m, .int .i64 a, .int .i64 n] w (PlacesR m a n w) := by
  obtain ⟨wM, hmk, hrow, hxM⟩ := run_makeInts m hm w
  have hw1 : wrap64 ((m : Int) + 1) = (m : Int) + 1 := by unfold wrap64; omega
  obtain ⟨g, hg⟩ : ∃ g, w.heap.size = g := ⟨_, rfl⟩
  rw [hg] at hmk hrow
  have HROW : Hid (RowL wM g 3 (m + 1) 1 intC (placesK m a n 1)) := by unfold Hid; rw [placesK_zero]; exact hrow
  have HXM := Lib.hid hxM
  have HGW := Lib.hid hg
  clear hrow hxM
  go_enter Tryz.func40, Tryz.ntmps40
  go_wp2_with fail
  clear hmk
  go_loopw [8, 9] (fun s8 s9 wr => ∃ k : Nat, 1 ≤ k ∧ k ≤ m + 1 ∧ s8 = .int .i64 (nextV a n k) ∧ s9 = .int .i64 (k : Int) ∧ Hid (RowL wr g 3 (m + 1) 1 intC (placesK m a n k)) ∧ Hid (Xt w wr)) (fun _ s9 _ => m + 1 - (intOf s9).toNat)
  case atStart => exact ⟨1, Nat.le_refl _, by omega, by unfold nextV; rw [if_pos (by omega)]; rfl, rfl, HROW, HXM⟩
  case round =>
    clear HROW HXM
    obtain ⟨k, hk1, hkm, rfl, rfl, HR, HX⟩ := hrel
    -- ROUND
    by_cases hle : (k : Int) ≤ m
    · have hk1w : wrap64 ((k : Int) + 1) = (k : Int) + 1 := by unfold wrap64; omega
      by_cases n0 : n < 0
      · have n1 : ¬ 0 < n := by omega
        have hsub : wrap64 (a - n) = a - n := by unfold wrap64; omega
        by_cases h1 : (k : Int) < a
        · have h1' : ¬ a ≤ (k : Int) := by omega
          have hka : ((k : Int) == a) = false := by simp; omega
          have hcur : nextV a n (k : Int) = (k : Int) := by unfold nextV; (repeat' split) <;> omega
          rw [hcur]
          obtain ⟨z, hz⟩ : ∃ z, wrap64 ((k : Int) + 1) = z := ⟨_, rfl⟩
          have hz2 : nextV a n ((k + 1 : Nat) : Int) = z := by rw [← hz]; unfold nextV wrap64; (repeat' split) <;> omega
          have hpl : placeV m a n (k : Int) = (k : Int) := by unfold placeV; (repeat' split) <;> omega
          have hlen := placesK_len m a n k
          have hhas := HR.out.has (o := k) (by omega)
          have hfz := HR.out.froz k
          obtain ⟨uo, huo⟩ := Option.isSome_iff_exists.1 hhas
          have HS := Lib.hid (rowInt_set HR.out (j := k) (by omega) ((k : Int)))
          have HX2 : Hid (Xt w (wr.setCell ⟨g, k, none⟩ (.int .i64 ((k : Int))))) := HX.out.grownB (setCell_grown _ _ _ _) (fun q hq => by cases hq; have := HGW.out; omega)
          rw [placesK_set (by omega) hpl.symm] at HS
          clear hcur hpl HR HX
          have HZ := Lib.hid hz2
          clear hz2
          try clear heqk
          go_wp2_with fail
          go_roundw
          case rel => exact ⟨k + 1, by omega, by omega, by first | (rw [HZ.out]; done) | (rw [HZ.out, ← hz]; congr 1; unfold wrap64; omega), by go_num, HS, HX2⟩
          case measure => simp [intOf]; omega
        · have h1' : a ≤ (k : Int) := by omega
          by_cases h2 : (k : Int) < a - n
          · by_cases h3 : (k : Int) = a
            · have hka : ((k : Int) == a) = true := by simp [h3]
              have hcur : nextV a n (k : Int) = a := by unfold nextV; (repeat' split) <;> omega
              rw [hcur]
              have hz2 : nextV a n ((k + 1 : Nat) : Int) = a := by unfold nextV; (repeat' split) <;> omega
              have hpl : placeV m a n (k : Int) = 0 := by unfold placeV; (repeat' split) <;> omega
              have HS := HR
              rw [placesK_skip hpl] at HS
              have HX2 := HX
              clear hcur hpl HR HX
              have HZ := Lib.hid hz2
              clear hz2
              try clear heqk
              go_wp2_with fail
              go_roundw
              case rel => exact ⟨k + 1, by omega, by omega, by first | (rw [HZ.out]; done) | (rw [HZ.out, ← hz]; congr 1; unfold wrap64; omega), by go_num, HS, HX2⟩
              case measure => simp [intOf]; omega
            · have hka : ((k : Int) == a) = false := by simp [h3]
              have hcur : nextV a n (k : Int) = a := by unfold nextV; (repeat' split) <;> omega
              rw [hcur]
              have hz2 : nextV a n ((k + 1 : Nat) : Int) = a := by unfold nextV; (repeat' split) <;> omega
              have hpl : placeV m a n (k : Int) = 0 := by unfold placeV; (repeat' split) <;> omega
              have HS := HR
              rw [placesK_skip hpl] at HS
              have HX2 := HX
              clear hcur hpl HR HX
              have HZ := Lib.hid hz2
              clear hz2
              try clear heqk
              go_wp2_with fail
              go_roundw
              case rel => exact ⟨k + 1, by omega, by omega, by first | (rw [HZ.out]; done) | (rw [HZ.out, ← hz]; congr 1; unfold wrap64; omega), by go_num, HS, HX2⟩
              case measure => simp [intOf]; omega
          · by_cases h3 : (k : Int) = a
            · omega
            · have hka : ((k : Int) == a) = false := by simp [h3]
              have hnm : (k : Int) + n ≤ m := by omega
              have hcur : nextV a n (k : Int) = (k : Int) + n := by unfold nextV; (repeat' split) <;> omega
              rw [hcur]
              obtain ⟨z, hz⟩ : ∃ z, wrap64 ((k : Int) + n + 1) = z := ⟨_, rfl⟩
              have hz2 : nextV a n ((k + 1 : Nat) : Int) = z := by rw [← hz]; unfold nextV wrap64; (repeat' split) <;> omega
              have hpl : placeV m a n (k : Int) = (k : Int) + n := by unfold placeV; (repeat' split) <;> omega
              have hlen := placesK_len m a n k
              have hhas := HR.out.has (o := k) (by omega)
              have hfz := HR.out.froz k
              obtain ⟨uo, huo⟩ := Option.isSome_iff_exists.1 hhas
              have HS := Lib.hid (rowInt_set HR.out (j := k) (by omega) ((k : Int) + n))
              have HX2 : Hid (Xt w (wr.setCell ⟨g, k, none⟩ (.int .i64 ((k : Int) + n)))) := HX.out.grownB (setCell_grown _ _ _ _) (fun q hq => by cases hq; have := HGW.out; omega)
              rw [placesK_set (by omega) hpl.symm] at HS
              clear hcur hpl HR HX
              have HZ := Lib.hid hz2
              clear hz2
              try clear heqk
              go_wp2_with fail
              go_roundw
              case rel => exact ⟨k + 1, by omega, by omega, by first | (rw [HZ.out]; done) | (rw [HZ.out, ← hz]; congr 1; unfold wrap64; omega), by go_num, HS, HX2⟩
              case measure => simp [intOf]; omega
      · by_cases h1 : (k : Int) < a
        · have hka : ((k : Int) == a) = false := by simp; omega
          have hcur : nextV a n (k : Int) = (k : Int) := by unfold nextV; (repeat' split) <;> omega
          rw [hcur]
          obtain ⟨z, hz⟩ : ∃ z, wrap64 ((k : Int) + 1) = z := ⟨_, rfl⟩
          have hz2 : nextV a n ((k + 1 : Nat) : Int) = z := by rw [← hz]; unfold nextV wrap64; (repeat' split) <;> omega
          have hpl : placeV m a n (k : Int) = (k : Int) := by unfold placeV; (repeat' split) <;> omega
          have hlen := placesK_len m a n k
          have hhas := HR.out.has (o := k) (by omega)
          have hfz := HR.out.froz k
          obtain ⟨uo, huo⟩ := Option.isSome_iff_exists.1 hhas
          have HS := Lib.hid (rowInt_set HR.out (j := k) (by omega) ((k : Int)))
          have HX2 : Hid (Xt w (wr.setCell ⟨g, k, none⟩ (.int .i64 ((k : Int))))) := HX.out.grownB (setCell_grown _ _ _ _) (fun q hq => by cases hq; have := HGW.out; omega)
          rw [placesK_set (by omega) hpl.symm] at HS
          clear hcur hpl HR HX
          have HZ := Lib.hid hz2
          clear hz2
          try clear heqk
          go_wp2_with fail
          go_roundw
          case rel => exact ⟨k + 1, by omega, by omega, by first | (rw [HZ.out]; done) | (rw [HZ.out, ← hz]; congr 1; unfold wrap64; omega), by go_num, HS, HX2⟩
          case measure => simp [intOf]; omega
        · by_cases heqk : (k : Int) = a
          · have hka : ((k : Int) == a) = true := by simp [heqk]
            by_cases h3 : 0 < n
            · by_cases hnm : (k : Int) + n ≤ m
              · have hn0 : 0 ≤ n := by omega
                have hcur : nextV a n (k : Int) = (k : Int) := by unfold nextV; (repeat' split) <;> omega
                rw [hcur]
                have hadd : wrap64 ((k : Int) + n) = (k : Int) + n := by unfold wrap64; omega
                obtain ⟨z, hz⟩ : ∃ z, wrap64 ((k : Int) + n + 1) = z := ⟨_, rfl⟩
                have hz2 : nextV a n ((k + 1 : Nat) : Int) = z := by rw [← hz]; unfold nextV wrap64; (repeat' split) <;> omega
                have hpl : placeV m a n (k : Int) = (k : Int) + n := by unfold placeV; (repeat' split) <;> omega
                have hlen := placesK_len m a n k
                have hhas := HR.out.has (o := k) (by omega)
                have hfz := HR.out.froz k
                obtain ⟨uo, huo⟩ := Option.isSome_iff_exists.1 hhas
                have HS := Lib.hid (rowInt_set HR.out (j := k) (by omega) ((k : Int) + n))
                have HX2 : Hid (Xt w (wr.setCell ⟨g, k, none⟩ (.int .i64 ((k : Int) + n)))) := HX.out.grownB (setCell_grown _ _ _ _) (fun q hq => by cases hq; have := HGW.out; omega)
                rw [placesK_set (by omega) hpl.symm] at HS
                clear hcur hpl HR HX
                have HZ := Lib.hid hz2
                clear hz2
                try clear heqk
                go_wp2_with fail
                go_roundw
                case rel => exact ⟨k + 1, by omega, by omega, by first | (rw [HZ.out]; done) | (rw [HZ.out, ← hz]; congr 1; unfold wrap64; omega), by go_num, HS, HX2⟩
                case measure => simp [intOf]; omega
              · have h4' : (m : Int) < (k : Int) + n := by omega
                have h4b : ((k : Int) + n ≤ (m : Int)) = False := eq_false hnm
                have hcur : nextV a n (k : Int) = (k : Int) := by unfold nextV; (repeat' split) <;> omega
                rw [hcur]
                have hadd : wrap64 ((k : Int) + n) = (k : Int) + n := by unfold wrap64; omega
                obtain ⟨z, hz⟩ : ∃ z, wrap64 ((k : Int) + n + 1) = z := ⟨_, rfl⟩
                have hz2 : nextV a n ((k + 1 : Nat) : Int) = z := by rw [← hz]; unfold nextV wrap64; (repeat' split) <;> omega
                have hpl : placeV m a n (k : Int) = 0 := by unfold placeV; (repeat' split) <;> omega
                have HS := HR
                rw [placesK_skip hpl] at HS
                have HX2 := HX
                clear hcur hpl HR HX
                have HZ := Lib.hid hz2
                clear hz2
                try clear heqk
                go_wp2_with fail
                go_roundw
                case rel => exact ⟨k + 1, by omega, by omega, by first | (rw [HZ.out]; done) | (rw [HZ.out, ← hz]; congr 1; unfold wrap64; omega), by go_num, HS, HX2⟩
                case measure => simp [intOf]; omega
            · have hcur : nextV a n (k : Int) = (k : Int) := by unfold nextV; (repeat' split) <;> omega
              rw [hcur]
              obtain ⟨z, hz⟩ : ∃ z, wrap64 ((k : Int) + 1) = z := ⟨_, rfl⟩
              have hz2 : nextV a n ((k + 1 : Nat) : Int) = z := by rw [← hz]; unfold nextV wrap64; (repeat' split) <;> omega
              have hpl : placeV m a n (k : Int) = (k : Int) := by unfold placeV; (repeat' split) <;> omega
              have hlen := placesK_len m a n k
              have hhas := HR.out.has (o := k) (by omega)
              have hfz := HR.out.froz k
              obtain ⟨uo, huo⟩ := Option.isSome_iff_exists.1 hhas
              have HS := Lib.hid (rowInt_set HR.out (j := k) (by omega) ((k : Int)))
              have HX2 : Hid (Xt w (wr.setCell ⟨g, k, none⟩ (.int .i64 ((k : Int))))) := HX.out.grownB (setCell_grown _ _ _ _) (fun q hq => by cases hq; have := HGW.out; omega)
              rw [placesK_set (by omega) hpl.symm] at HS
              clear hcur hpl HR HX
              have HZ := Lib.hid hz2
              clear hz2
              try clear heqk
              go_wp2_with fail
              go_roundw
              case rel => exact ⟨k + 1, by omega, by omega, by first | (rw [HZ.out]; done) | (rw [HZ.out, ← hz]; congr 1; unfold wrap64; omega), by go_num, HS, HX2⟩
              case measure => simp [intOf]; omega
          · have hka : ((k : Int) == a) = false := by simp [heqk]
            by_cases hnm : (k : Int) + n ≤ m
            · have hcur : nextV a n (k : Int) = (k : Int) + n := by unfold nextV; (repeat' split) <;> omega
              rw [hcur]
              obtain ⟨z, hz⟩ : ∃ z, wrap64 ((k : Int) + n + 1) = z := ⟨_, rfl⟩
              have hz2 : nextV a n ((k + 1 : Nat) : Int) = z := by rw [← hz]; unfold nextV wrap64; (repeat' split) <;> omega
              have hpl : placeV m a n (k : Int) = (k : Int) + n := by unfold placeV; (repeat' split) <;> omega
              have hlen := placesK_len m a n k
              have hhas := HR.out.has (o := k) (by omega)
              have hfz := HR.out.froz k
              obtain ⟨uo, huo⟩ := Option.isSome_iff_exists.1 hhas
              have HS := Lib.hid (rowInt_set HR.out (j := k) (by omega) ((k : Int) + n))
              have HX2 : Hid (Xt w (wr.setCell ⟨g, k, none⟩ (.int .i64 ((k : Int) + n)))) := HX.out.grownB (setCell_grown _ _ _ _) (fun q hq => by cases hq; have := HGW.out; omega)
              rw [placesK_set (by omega) hpl.symm] at HS
              clear hcur hpl HR HX
              have HZ := Lib.hid hz2
              clear hz2
              try clear heqk
              go_wp2_with fail
              go_roundw
              case rel => exact ⟨k + 1, by omega, by omega, by first | (rw [HZ.out]; done) | (rw [HZ.out, ← hz]; congr 1; unfold wrap64; omega), by go_num, HS, HX2⟩
              case measure => simp [intOf]; omega
            · have h4' : (m : Int) < (k : Int) + n := by omega
              have h4b : ((k : Int) + n ≤ (m : Int)) = False := eq_false hnm
              have hcur : nextV a n (k : Int) = (k : Int) + n := by unfold nextV; (repeat' split) <;> omega
              rw [hcur]
              obtain ⟨z, hz⟩ : ∃ z, wrap64 ((k : Int) + n + 1) = z := ⟨_, rfl⟩
              have hz2 : nextV a n ((k + 1 : Nat) : Int) = z := by rw [← hz]; unfold nextV wrap64; (repeat' split) <;> omega
              have hpl : placeV m a n (k : Int) = 0 := by unfold placeV; (repeat' split) <;> omega
              have HS := HR
              rw [placesK_skip hpl] at HS
              have HX2 := HX
              clear hcur hpl HR HX
              have HZ := Lib.hid hz2
              clear hz2
              try clear heqk
              go_wp2_with fail
              go_roundw
              case rel => exact ⟨k + 1, by omega, by omega, by first | (rw [HZ.out]; done) | (rw [HZ.out, ← hz]; congr 1; unfold wrap64; omega), by go_num, HS, HX2⟩
              case measure => simp [intOf]; omega
    · obtain rfl : k = m + 1 := by omega
      go_wp2_with fail
      go_ret
      exact ⟨g, rfl, HR.out, by have := HGW.out; omega, HX.out⟩
    -- ENDROUND
end Go.Proofs.YtlgkaipgdhcajaaGreatDoor
/- quadrilleref22: how many lines there may be; a span; what is lost. -/
namespace Go.Proofs.YtlgkaipgdhcajaaGreatDoor
open Go.RowKit Go.Sort

def manyI (cols : Bool) : Int := if cols then 256 else 4096
set_option maxRecDepth 100000 in
set_option maxHeartbeats 2000000 in
theorem many22_any (cols : Bool) (a n : Int) (w : World) : Calls Tryz.prog 38 #[.bool cols, .int .i64 a, .int .i64 n] w fun e w' => e = .returned (.tuple #[.int .i64 (manyI cols), .bool (madeL (manyI cols) a n).2]) ∧ w = w' := by
  have neg1 := neg_4096
  have neg2 := neg_256
  cases cols
  · unfold madeL manyI
    by_cases h1 : 1 ≤ a
    · by_cases h2 : a ≤ 4096
      · by_cases h3 : -4096 ≤ n
        · have h3' : IntKind.i64.wrap (-4096) ≤ n := by rw [neg1]; exact h3
          by_cases h4 : n ≤ 4096
          · go_enter Tryz.func38, Tryz.ntmps38
            go_wp2_with fail
            go_ret2
            exact ⟨by simp, rfl⟩
          · go_enter Tryz.func38, Tryz.ntmps38
            go_wp2_with fail
            go_ret2
            exact ⟨by simp [h4], rfl⟩
        · have h3' : ¬ IntKind.i64.wrap (-4096) ≤ n := by rw [neg1]; exact h3
          go_enter Tryz.func38, Tryz.ntmps38
          go_wp2_with fail
          go_ret2
          exact ⟨by simp <;> (intros; omega), rfl⟩
      · go_enter Tryz.func38, Tryz.ntmps38
        go_wp2_with fail
        go_ret2
        exact ⟨by simp <;> (intros; omega), rfl⟩
    · go_enter Tryz.func38, Tryz.ntmps38
      go_wp2_with fail
      go_ret2
      exact ⟨by simp <;> (intros; omega), rfl⟩
  · unfold madeL manyI
    by_cases h1 : 1 ≤ a
    · by_cases h2 : a ≤ 256
      · by_cases h3 : -256 ≤ n
        · have h3' : IntKind.i64.wrap (-256) ≤ n := by rw [neg2]; exact h3
          by_cases h4 : n ≤ 256
          · go_enter Tryz.func38, Tryz.ntmps38
            go_wp2_with fail
            go_ret2
            exact ⟨by simp, rfl⟩
          · go_enter Tryz.func38, Tryz.ntmps38
            go_wp2_with fail
            go_ret2
            exact ⟨by simp [h4], rfl⟩
        · have h3' : ¬ IntKind.i64.wrap (-256) ≤ n := by rw [neg2]; exact h3
          go_enter Tryz.func38, Tryz.ntmps38
          go_wp2_with fail
          go_ret2
          exact ⟨by simp <;> (intros; omega), rfl⟩
      · go_enter Tryz.func38, Tryz.ntmps38
        go_wp2_with fail
        go_ret2
        exact ⟨by simp <;> (intros; omega), rfl⟩
    · go_enter Tryz.func38, Tryz.ntmps38
      go_wp2_with fail
      go_ret2
      exact ⟨by simp <;> (intros; omega), rfl⟩
/-! ### the table tells what a line is -/
theorem line_place {m : Nat} {a n k : Int} (hm : m ≤ 4096) (ha : 1 ≤ a ∧ a ≤ m) (hn : -(m : Int) ≤ n ∧ n ≤ m) (hk : 1 ≤ k ∧ k ≤ m) : (lineF ⟨a, n, m⟩ k).2 = decide (0 < placeV m a n k) ∧ ((lineF ⟨a, n, m⟩ k).2 = true → (lineF ⟨a, n, m⟩ k).1 = placeV m a n k) := by
  have w1 : wrap64 (k + n) = k + n := by unfold wrap64; omega
  have w2 : wrap64 (a - n) = a - n := by unfold wrap64; omega
  unfold lineF placeV
  simp only [w1, w2]
  rw [if_neg (by omega : ¬ k < 1)]
  by_cases h1 : k < a
  · rw [if_pos h1, if_pos h1]; simp; omega
  · rw [if_neg h1, if_neg h1]
    by_cases h2 : 0 ≤ n
    · rw [if_pos h2, if_pos h2]
      by_cases h3 : k + n ≤ m
      · rw [if_pos h3]; simp [h3]; omega
      · rw [if_neg h3]; simp [h3]
    · rw [if_neg h2, if_neg h2]
      by_cases h3 : k < a - n
      · rw [if_pos h3]; simp; omega
      · rw [if_neg h3]; simp; omega
theorem place_ge (m : Nat) (a n k : Int) (ha : 1 ≤ a) : 0 ≤ placeV m a n k := by
  unfold placeV; (repeat' split) <;> omega
/-- A cell of the table. -/
theorem rowInt_at {w : World} {g m : Nat} {a n : Int} (h : RowL w g 3 (m + 1) 1 intC (placesL m a n)) {k : Int} (h0 : 0 ≤ k) (hk : k ≤ m) : ∃ j : Nat, (j : Int) = k ∧ j < m + 1 ∧ w.cell? ⟨g, j, none⟩ = some (.int .i64 (placeV m a n k)) := by
  refine ⟨k.toNat, by omega, by omega, ?_⟩
  have := h.cell (placesL_at (m := m) (a := a) (n := n) (k := k.toNat) (by omega)) 0 _ rfl
  have e : ((k.toNat : Nat) : Int) = k := by omega
  simpa [e] using this
set_option maxRecDepth 100000 in
set_option maxHeartbeats 4000000 in
theorem span22_any (m g : Nat) (a n f t : Int) (w : World) (hm : m ≤ 4096) (ha : 1 ≤ a ∧ a ≤ m) (hn : -(m : Int) ≤ n ∧ n ≤ m) (hrow : RowL w g 3 (m + 1) 1 intC (placesL m a n)) (hf : 1 ≤ f) (ht : t ≤ m) :
    Calls Tryz.prog 78 #[.slice (some ⟨g, 0, none⟩) (m + 1) (m + 1), .int .i64 f, .int .i64 t] w fun e w' => e = .returned (.tuple #[.int .i64 (spanF ⟨a, n, m⟩ f t).1, .int .i64 (spanF ⟨a, n, m⟩ f t).2.1, .bool (spanF ⟨a, n, m⟩ f t).2.2]) ∧ w = w' := by
  have HRW := Lib.hid hrow
  unfold spanF
  obtain ⟨r, hr0⟩ : ∃ r, spanG ⟨a, n, m⟩ (t - f + 1).toNat f 0 0 = r := ⟨_, rfl⟩
  have HR := Lib.hid hr0
  rw [hr0]
  have HA := Lib.hid ha
  have HN := Lib.hid hn
  clear hr0 hrow ha hn
  go_enter Tryz.func78, Tryz.ntmps78
  go_wp2_with fail
  go_loopw [9, 10, 11] (fun s9 s10 s11 wr => ∃ k x y : Int, 1 ≤ k ∧ s11 = .int .i64 k ∧ s9 = .int .i64 x ∧ s10 = .int .i64 y ∧ Hid (spanG ⟨a, n, m⟩ (t - k + 1).toNat k x y = r) ∧ w = wr) (fun _ _ s11 _ => (t + 1 - intOf s11).toNat)
  case atStart => exact ⟨f, 0, 0, hf, rfl, rfl, rfl, HR, rfl⟩
  case round =>
    obtain ⟨k, x, y, hk, rfl, rfl, rfl, HS, rfl⟩ := hrel
    by_cases hlt : k ≤ t
    · have hst := HS.out
      rw [spanG_step hlt] at hst
      obtain ⟨l1, l2⟩ := line_place hm HA.out HN.out (k := k) ⟨hk, by omega⟩
      obtain ⟨j, hj, hjm, hcell⟩ := rowInt_at HRW.out (k := k) (by omega) (by omega)
      rw [l1] at hst l2
      obtain ⟨v, hv⟩ : ∃ v, placeV m a n k = v := ⟨_, rfl⟩
      rw [hv] at hst l2 hcell
      have hadd : wrap64 (k + 1) = k + 1 := by unfold wrap64; omega
      have hjl : j < m + 1 := hjm
      subst hj
      by_cases hv0 : 0 < v
      · rw [if_pos (by simpa using hv0), l2 (by simpa using hv0)] at hst
        have HST := Lib.hid hst
        clear hst l1 l2 hv
        by_cases hx : x = 0
        · subst hx
          have HN2 : Hid (spanG ⟨a, n, m⟩ (t - ((j : Int) + 1) + 1).toNat ((j : Int) + 1) v v = r) := by have h := HST.out; unfold Hid; simpa using h
          go_wp2_with fail
          go_roundw
          case rel => exact ⟨(j : Int) + 1, v, v, by omega, by go_num, rfl, rfl, HN2, trivial⟩
          case measure => simp [intOf]; omega
        · have hxb : (x == 0) = false := by simpa using hx
          have HN2 : Hid (spanG ⟨a, n, m⟩ (t - ((j : Int) + 1) + 1).toNat ((j : Int) + 1) x v = r) := by have h := HST.out; unfold Hid; simpa [hx] using h
          go_wp2_with fail
          go_roundw
          case rel => exact ⟨(j : Int) + 1, x, v, by omega, by go_num, rfl, rfl, HN2, trivial⟩
          case measure => simp [intOf]; omega
      · rw [if_neg (by simpa using hv0)] at hst
        have HST := Lib.hid hst
        clear hst l1 l2 hv
        go_wp2_with fail
        go_roundw
        case rel => exact ⟨(j : Int) + 1, x, y, by omega, by go_num, rfl, rfl, HST, trivial⟩
        case measure => simp [intOf]; omega
    · have hE := HS.out
      rw [spanG_end (by omega)] at hE
      have HE := Lib.hid hE
      clear hE
      go_wp2_with fail
      refine bodyPost_ret (v := .tuple #[.int .i64 x, .int .i64 y, .bool (decide (0 < x))]) (by simp [results]) rfl ?_
      exact ⟨by rw [← HE.out], rfl⟩
end Go.Proofs.YtlgkaipgdhcajaaGreatDoor
/- move, plain: what goes a road and is copied. -/
namespace Go.Proofs.YtlgkaipgdhcajaaGreatDoor
open Go.RowKit Go.Sort

theorem copyT_lost : copyT lostT = lostT := by
  have h : oneX 0 = 0 := (oneX_zero 0).2 rfl
  simp only [lostT, copyT, copyL, h]
theorem turnH_copy (cG : Ad → Ad × Bool) (aG : ArT → ArT × Bool) (k o : Int) (x : Nat) (s : ByteArray) (b : Bool) (f : Int) (r q : RefT) (l : List NodeT) : turnH cG aG (.mk k o (oneX x) s b f r q (copyL l)) = copyT (turnH cG aG (.mk k o x s b f r q l)) := by
  rw [turnH, turnH]
  by_cases h5 : k = 5
  · rw [if_pos h5, if_pos h5]
    by_cases h : (cG r.a).2 = true
    · rw [if_pos h, if_pos h]; rfl
    · rw [if_neg h, if_neg h, copyT_lost]
  · rw [if_neg h5, if_neg h5]
    by_cases h6 : k = 6
    · rw [if_pos h6, if_pos h6]
      by_cases h : (aG (arOf r q)).2 = true
      · rw [if_pos h, if_pos h]; rfl
      · rw [if_neg h, if_neg h, copyT_lost]
    · rw [if_neg h6, if_neg h6]; rfl
mutual
theorem turn_copy (cG : Ad → Ad × Bool) (aG : ArT → ArT × Bool) : ∀ t : NodeT, turnT cG aG (copyT t) = copyT (turnT cG aG t)
  | .mk k o x s b f r q l => by
    rw [copyT, turnT, turnT, turnL_copy cG aG l, turnH_copy]
theorem turnL_copy (cG : Ad → Ad × Bool) (aG : ArT → ArT × Bool) : ∀ l : List NodeT, turnL cG aG (copyL l) = copyL (turnL cG aG l)
  | [] => rfl
  | t :: l => by rw [copyL, turnL, turnL, copyL, turn_copy cG aG t, turnL_copy cG aG l]
end
/-- As the document has it: nothing is copied. -/
def formD (cols : Bool) (at_ cnt : Int) (t : NodeT) : NodeT × Int :=
  if checkT t ≠ 0 then (zeroN, checkT t) else if (madeL (manyI cols) at_ cnt).2 = false then (zeroN, 1) else (turnT (cellF cols ⟨at_, cnt, manyI cols⟩) (areaF cols ⟨at_, cnt, manyI cols⟩) t, 0)
theorem form_same (cols : Bool) (at_ cnt : Int) (t : NodeT) : (formP cols at_ cnt t).2 = (formD cols at_ cnt t).2 ∧ copyT (formP cols at_ cnt t).1 = copyT (formD cols at_ cnt t).1 := by
  have e : manyL cols = manyI cols := rfl
  unfold formP formD
  rw [e]
  split
  · exact ⟨rfl, rfl⟩
  · split
    · exact ⟨rfl, rfl⟩
    · exact ⟨rfl, by rw [turn_copy, copyT_idem]⟩
end Go.Proofs.YtlgkaipgdhcajaaGreatDoor
/- move, plain: where lines put in or taken out bring cells and areas; a grid that goes such a road. -/
namespace Go.Proofs.YtlgkaipgdhcajaaGreatDoor
open Go.RowKit Go.Sort

/-! ### one line -/
def lineZ (k n m z : Int) : Int × Bool := if z < k then (z, true) else if 0 ≤ n then (z + n, decide (z + n ≤ m)) else (z + n, decide (k - n ≤ z))
/-- Lines that may be asked for. -/
structure LB (m k n : Int) : Prop where
  m1 : 1 ≤ m
  m2 : m ≤ 4096
  k1 : 1 ≤ k
  k2 : k ≤ m
  n1 : -m ≤ n
  n2 : n ≤ m
theorem lineF_eq {k n m z : Int} (h : LB m k n) (hz : 1 ≤ z ∧ z ≤ m) : lineF ⟨k, n, m⟩ z = lineZ k n m z := by
  obtain ⟨h1, h2, h3, h4, h5, h6⟩ := h
  have w1 : wrap64 (z + n) = z + n := by unfold wrap64; omega
  have w2 : wrap64 (k - n) = k - n := by unfold wrap64; omega
  unfold lineF lineZ
  simp only [w1, w2]
theorem lineZ_ok {k n m z : Int} (h : LB m k n) (hz : 1 ≤ z ∧ z ≤ m) (ho : (lineZ k n m z).2 = true) : 1 ≤ (lineZ k n m z).1 ∧ (lineZ k n m z).1 ≤ m := by
  obtain ⟨h1, h2, h3, h4, h5, h6⟩ := h
  unfold lineZ at *
  split
  · simp only; omega
  · rename_i hk
    rw [if_neg hk] at ho
    split
    · rename_i hn
      rw [if_pos hn] at ho
      have := of_decide_eq_true ho
      simp only at *; omega
    · rename_i hn
      rw [if_neg hn] at ho
      have := of_decide_eq_true ho
      simp only at *; omega
theorem lineZ_bool {k n m z : Int} : (lineZ k n m z).2 = true ↔ (z < k ∨ (0 ≤ n ∧ z + n ≤ m) ∨ (n < 0 ∧ k - n ≤ z)) := by
  unfold lineZ
  split
  · simp [*]
  · split
    · simp only [decide_eq_true_eq]; omega
    · simp only [decide_eq_true_eq]; omega
theorem lineZ_val {k n m z : Int} : (lineZ k n m z).1 = if z < k then z else z + n := by
  unfold lineZ
  split
  · rfl
  · split <;> rfl
theorem lineZ_mono {k n m y z : Int} (_hy : (lineZ k n m y).2 = true) (hz : (lineZ k n m z).2 = true) (h : y < z) : (lineZ k n m y).1 < (lineZ k n m z).1 := by
  rw [lineZ_bool] at hz
  rw [lineZ_val, lineZ_val]
  split <;> split <;> omega
/-! ### from one to another one -/
def loZ (k n a : Int) : Int := if 0 ≤ n then a else if a < k then a else if a < k - n then k - n else a
def hiZ (k n m b : Int) : Int := if 0 ≤ n then (if b < k then b else if b ≤ m - n then b else if m - n < k then k - 1 else m - n) else if k - n ≤ b then b else if b < k then b else k - 1
theorem spanG_eq {k n m : Int} (h : LB m k n) : ∀ (c : Nat) (a f t : Int), 1 ≤ a → a + c ≤ m + 1 →
    spanG ⟨k, n, m⟩ c a f t = if loZ k n a ≤ hiZ k n m (a + c - 1) then (if f = 0 then (lineZ k n m (loZ k n a)).1 else f, (lineZ k n m (hiZ k n m (a + c - 1))).1) else (f, t) := by
  obtain ⟨h1, h2, h3, h4, h5, h6⟩ := id h
  intro c
  induction c with
  | zero =>
    intro a f t ha hc
    have : ¬ loZ k n a ≤ hiZ k n m (a + (0 : Nat) - 1) := by unfold loZ hiZ; split <;> split <;> (try split) <;> (try split) <;> omega
    rw [if_neg this]; rfl
  | succ c ih =>
    intro a f t ha hc
    obtain ⟨b, hb⟩ : ∃ b, a + ((c + 1 : Nat) : Int) - 1 = b := ⟨_, rfl⟩
    have hb2 : a + 1 + (c : Int) - 1 = b := by omega
    have hab : a ≤ b := by omega
    have hbm : b ≤ m := by omega
    rw [hb]
    unfold spanG
    rw [lineF_eq h ⟨ha, by omega⟩]
    by_cases ho : (lineZ k n m a).2 = true
    · rw [if_pos ho, ih (a + 1) _ _ (by omega) (by omega), hb2]
      have ho' := lineZ_bool.1 ho
      have hp := (lineZ_ok h ⟨ha, by omega⟩ ho).1
      have hlo : loZ k n a = a := by unfold loZ; split <;> (try split) <;> (try split) <;> omega
      have hhi : a ≤ hiZ k n m b := by unfold hiZ; split <;> (try split) <;> (try split) <;> (try split) <;> omega
      have hf : (if (if f = 0 then (lineZ k n m a).1 else f) = 0 then (lineZ k n m (loZ k n (a + 1))).1 else (if f = 0 then (lineZ k n m a).1 else f)) = (if f = 0 then (lineZ k n m a).1 else f) := by
        by_cases hf0 : f = 0
        · rw [if_pos hf0, if_neg (by omega)]
        · rw [if_neg hf0, if_neg hf0]
      rw [hlo, if_pos hhi, hf]
      by_cases hle : loZ k n (a + 1) ≤ hiZ k n m b
      · rw [if_pos hle]
      · rw [if_neg hle]
        have : hiZ k n m b = a := by
          unfold loZ hiZ at *
          split at hle <;> (try split at hle) <;> (try split at hle) <;> (try split at hle) <;> (try split at hle) <;> (try split at hle) <;> simp_all <;> omega
        rw [this]
    · rw [if_neg ho, ih (a + 1) _ _ (by omega) (by omega), hb2]
      have ho' : ¬ (a < k ∨ (0 ≤ n ∧ a + n ≤ m) ∨ (n < 0 ∧ k - n ≤ a)) := fun e => ho (lineZ_bool.2 e)
      by_cases hn : 0 ≤ n
      · have hhi : hiZ k n m b < a := by unfold hiZ; rw [if_pos hn]; split <;> (try split) <;> (try split) <;> omega
        have l1 : loZ k n a = a := by unfold loZ; rw [if_pos hn]
        have l2 : loZ k n (a + 1) = a + 1 := by unfold loZ; rw [if_pos hn]
        rw [l1, l2, if_neg (by omega), if_neg (by omega)]
      · have l1 : loZ k n a = k - n := by unfold loZ; rw [if_neg hn, if_neg (by omega), if_pos (by omega)]
        have l2 : loZ k n (a + 1) = k - n := by unfold loZ; rw [if_neg hn, if_neg (by omega)]; split <;> omega
        rw [l1, l2]
def spanZ (k n m a b : Int) : Int × Int × Bool := if loZ k n a ≤ hiZ k n m b then ((lineZ k n m (loZ k n a)).1, (lineZ k n m (hiZ k n m b)).1, true) else (0, 0, false)
theorem ends_ok {k n m a b : Int} (h : LB m k n) (_hab : 1 ≤ a ∧ a ≤ b ∧ b ≤ m) (hl : loZ k n a ≤ hiZ k n m b) : (lineZ k n m (loZ k n a)).2 = true ∧ (lineZ k n m (hiZ k n m b)).2 = true ∧ a ≤ loZ k n a ∧ hiZ k n m b ≤ b := by
  obtain ⟨h1, h2, h3, h4, h5, h6⟩ := id h
  rw [lineZ_bool, lineZ_bool]
  unfold loZ hiZ at *
  split at hl <;> (try split at hl) <;> (try split at hl) <;> (try split at hl) <;> (try split at hl) <;> simp_all <;> omega
theorem spanF_eq {k n m a b : Int} (h : LB m k n) (hab : 1 ≤ a ∧ a ≤ b ∧ b ≤ m) : spanF ⟨k, n, m⟩ a b = spanZ k n m a b := by
  unfold spanF spanZ
  rw [spanG_eq h _ _ _ _ hab.1 (by omega), show a + ((b - a + 1).toNat : Int) - 1 = b by omega]
  by_cases hl : loZ k n a ≤ hiZ k n m b
  · obtain ⟨o1, o2, o3, o4⟩ := ends_ok h hab hl
    have := lineZ_ok h ⟨by omega, by omega⟩ o1
    rw [if_pos hl, if_pos hl]
    simp only [if_true]
    rw [decide_eq_true (by omega)]
  · rw [if_neg hl, if_neg hl]; rfl
theorem spanZ_ok {k n m a b : Int} (h : LB m k n) (hab : 1 ≤ a ∧ a ≤ b ∧ b ≤ m) (ho : (spanZ k n m a b).2.2 = true) : 1 ≤ (spanZ k n m a b).1 ∧ (spanZ k n m a b).1 ≤ (spanZ k n m a b).2.1 ∧ (spanZ k n m a b).2.1 ≤ m := by
  unfold spanZ at *
  by_cases hl : loZ k n a ≤ hiZ k n m b
  · obtain ⟨o1, o2, o3, o4⟩ := ends_ok h hab hl
    have q1 := lineZ_ok h ⟨by omega, by omega⟩ o1
    have q2 := lineZ_ok h ⟨by omega, by omega⟩ o2
    rw [if_pos hl]
    simp only
    refine ⟨q1.1, ?_, q2.2⟩
    rcases Int.lt_or_eq_of_le hl with e | e
    · exact Int.le_of_lt (lineZ_mono o1 o2 e)
    · rw [e]; exact Int.le_refl _
  · rw [if_neg hl] at ho; cases ho
/-! ### cells and areas -/
theorem many_bd (cols : Bool) : 1 ≤ manyL cols ∧ manyL cols ≤ 4096 := by cases cols <;> decide
def vA (x : ArT) : Bool := validB x.a x.b && validB x.c x.d && decide (x.a ≤ x.c) && decide (x.b ≤ x.d)
theorem vA_le {x : ArT} (h : vA x = true) : (1 ≤ x.a ∧ x.a ≤ x.c ∧ x.c ≤ 256) ∧ (1 ≤ x.b ∧ x.b ≤ x.d ∧ x.d ≤ 4096) := by
  unfold vA at h
  simp only [Bool.and_eq_true, decide_eq_true_eq] at h
  have v1 := validB_le h.1.1.1
  have v2 := validB_le h.1.1.2
  omega
theorem validB_of {a b : Int} (h : 1 ≤ a ∧ a ≤ 256 ∧ 1 ≤ b ∧ b ≤ 4096) : validB a b = true := by
  unfold validB; simp; omega
theorem vA_of {x : ArT} (h : (1 ≤ x.a ∧ x.a ≤ x.c ∧ x.c ≤ 256) ∧ (1 ≤ x.b ∧ x.b ≤ x.d ∧ x.d ≤ 4096)) : vA x = true := by
  unfold vA
  rw [validB_of (by omega), validB_of (by omega), decide_eq_true (by omega), decide_eq_true (by omega)]; rfl
/-- A road that leads from valid cells and areas to valid ones, and keeps the order of cells. -/
structure RoadV (cG : Ad → Ad × Bool) (aG : ArT → ArT × Bool) : Prop where
  cell : ∀ a, validB a.1 a.2 = true → (cG a).2 = true → validB (cG a).1.1 (cG a).1.2 = true
  area : ∀ x, vA x = true → (aG x).2 = true → vA (aG x).1 = true
theorem lines_roadV {cols : Bool} {k n : Int} (h : LB (manyL cols) k n) : RoadV (cellF cols ⟨k, n, manyL cols⟩) (areaF cols ⟨k, n, manyL cols⟩) := by
  constructor
  · intro a hv ho
    have v := validB_le hv
    unfold cellF at *
    cases cols
    · simp only [Bool.false_eq_true, if_false] at *
      have h0 : LB 4096 k n := h
      rw [show manyL false = 4096 from rfl, lineF_eq h0 (by omega)] at *
      have := lineZ_ok h0 (by omega) ho
      exact validB_of (by omega)
    · simp only [if_true] at *
      have h0 : LB 256 k n := h
      rw [show manyL true = 256 from rfl, lineF_eq h0 (by omega)] at *
      have := lineZ_ok h0 (by omega) ho
      exact validB_of (by omega)
  · intro x hv ho
    have v := vA_le hv
    unfold areaF at *
    cases cols
    · simp only [Bool.false_eq_true, if_false] at *
      have h0 : LB 4096 k n := h
      rw [show manyL false = 4096 from rfl, spanF_eq h0 (by omega)] at *
      have := spanZ_ok h0 (by omega) ho
      exact vA_of (by simp only; omega)
    · simp only [if_true] at *
      have h0 : LB 256 k n := h
      rw [show manyL true = 256 from rfl, spanF_eq h0 (by omega)] at *
      have := spanZ_ok h0 (by omega) ho
      exact vA_of (by simp only; omega)
theorem adLt_or {a b : Ad} : adLt a b = true ↔ a.2 < b.2 ∨ (a.2 = b.2 ∧ a.1 < b.1) := by unfold adLt; simp
theorem lines_mono {cols : Bool} {k n : Int} (h : LB (manyL cols) k n) {a b : Ad} (ha : validB a.1 a.2 = true) (hb : validB b.1 b.2 = true) (oa : (cellF cols ⟨k, n, manyL cols⟩ a).2 = true) (ob : (cellF cols ⟨k, n, manyL cols⟩ b).2 = true) (hl : adLt a b = true) :
    adLt (cellF cols ⟨k, n, manyL cols⟩ a).1 (cellF cols ⟨k, n, manyL cols⟩ b).1 = true := by
  have va := validB_le ha
  have vb := validB_le hb
  rw [adLt_or] at *
  unfold cellF at *
  cases cols
  · simp only [Bool.false_eq_true, if_false] at *
    have h0 : LB 4096 k n := h
    rw [show manyL false = 4096 from rfl] at *
    rw [lineF_eq h0 (z := a.2) (by omega), lineF_eq h0 (z := b.2) (by omega)] at *
    rcases hl with e | ⟨e, e2⟩
    · exact Or.inl (lineZ_mono oa ob e)
    · rw [e]; exact Or.inr ⟨rfl, e2⟩
  · simp only [if_true] at *
    have h0 : LB 256 k n := h
    rw [show manyL true = 256 from rfl] at *
    rw [lineF_eq h0 (z := a.1) (by omega), lineF_eq h0 (z := b.1) (by omega)] at *
    rcases hl with e | ⟨e, e2⟩
    · exact Or.inl e
    · exact Or.inr ⟨e, lineZ_mono oa ob e2⟩
end Go.Proofs.YtlgkaipgdhcajaaGreatDoor
