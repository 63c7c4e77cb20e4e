import Derived.Test.YtlgkaipgdhcajaaGreatDoorW18
namespace Go.Proofs.YtlgkaipgdhcajaaGreatDoor
open Go.RowKit Go.Sort

/-! ### value.Valid -/
def restB (x : Nat) (s : ByteArray) (b : Bool) (f : Int) : Bool := decide ((x : Int) = 0) && decide (s.toList = []) && !b && decide (f = 0)
theorem toList_nil : (ByteArray.mk #[]).toList = [] := by first | (simp; done) | (unfold ByteArray.toList ByteArray.toList.loop; simp; done) | (unfold ByteArray.toList; rw [ByteArray.toList.loop]; rfl) | decide
abbrev valW (k : Int) (x : Nat) (s : ByteArray) (b : Bool) (f : Int) : Value := .agg #[.int .i64 k, .float .f64 x, .string s, .bool b, .int .i64 f]
set_option maxRecDepth 100000 in
set_option maxHeartbeats 4000000 in
theorem vvalid_0 (x : Nat) (s : ByteArray) (b : Bool) (f : Int) (w : World) :
    Calls Tryz.prog 97 #[valW 0 x s b f] w fun e w' => e = .returned (.bool (restB x s b f)) ∧ Xt w w' := by
  obtain ⟨w0, hw0, hg0, hs0, c0, c1, c2, c3, c4⟩ := boxV w ⟨0, x, s, b, f⟩ 48
  simp only at hw0 c0 c1 c2 c3 c4
  have HG0 := Lib.hid hg0
  clear hg0
  go_enter Tryz.func97, Tryz.ntmps97
  go_wp2_with fail
  all_goals (go_ret; refine ⟨?_, (HG0.out.alloc _).xt⟩; first | (simp [restB, *]; done) | (simp [restB, toList_nil, *]; omega) | (simp [restB, toList_nil, *]; intros; exfalso; omega) | (by_cases hx : x = 0 <;> simp_all [restB, toList_nil, feq00]; done))
set_option maxRecDepth 100000 in
set_option maxHeartbeats 4000000 in
theorem vvalid_1 (x : Nat) (s : ByteArray) (b : Bool) (f : Int) (w : World) :
    Calls Tryz.prog 97 #[valW 1 x s b f] w fun e w' => e = .returned (.bool (restB 0 s b f)) ∧ Xt w w' := by
  obtain ⟨w0, hw0, hg0, hs0, c0, c1, c2, c3, c4⟩ := boxV w ⟨1, x, s, b, f⟩ 48
  simp only at hw0 c0 c1 c2 c3 c4
  have HG0 := Lib.hid hg0
  clear hg0
  go_enter Tryz.func97, Tryz.ntmps97
  go_wp2_with fail
  all_goals (go_ret; refine ⟨?_, (HG0.out.alloc _).xt⟩; first | (simp [restB, *]; done) | (simp [restB, toList_nil, *]; omega) | (simp [restB, toList_nil, *]; intros; exfalso; omega) | (by_cases hx : x = 0 <;> simp_all [restB, toList_nil, feq00]; done))
set_option maxRecDepth 100000 in
set_option maxHeartbeats 4000000 in
theorem vvalid_2 (x : Nat) (s : ByteArray) (b : Bool) (f : Int) (w : World) (hs : s.size ≤ 9223372036854775807) (hT : Tabs w) :
    Calls Tryz.prog 97 #[valW 2 x s b f] w fun e w' => e = .returned (.bool ((Lib.validD s.data.toList && decide ((s.size : Int) ≤ 1024) && restB x ⟨#[]⟩ b f))) ∧ Xt w w' := by
  obtain ⟨w0, hw0, hg0, hs0, c0, c1, c2, c3, c4⟩ := boxV w ⟨2, x, s, b, f⟩ 48
  simp only at hw0 c0 c1 c2 c3 c4
  have HG0 := Lib.hid hg0
  obtain ⟨w1, hw1, hg1, hs1, d0, d1, d2, d3, d4⟩ := boxV w0 ⟨2, x, ⟨#[]⟩, b, f⟩ 48
  rw [hs0] at hs1 d0 d1 d2 d3 d4
  simp only at hw1 d0 d1 d2 d3 d4
  have kk := fun o => (hg1.xt.cells).1 w.heap.size o (by omega)
  have k0 := (kk 0).trans c0
  have k1 := (kk 1).trans c1
  have k2 := (kk 2).trans c2
  have k3 := (kk 3).trans c3
  have k4 := (kk 4).trans c4
  have HG := Lib.hid (hg0.trans hg1)
  have H1 := Lib.hid (validString_any s w1 hs (hT.xt HG.out.xt))
  generalize Lib.validD s.data.toList = vd at H1 ⊢
  clear hT hs kk hg1 hg0
  go_enter Tryz.func97, Tryz.ntmps97
  go_wp2_with fail
  refine (H1.out).mono ?_
  rintro e w3 ⟨rfl, hb3⟩
  have hx3 : Xt w1 w3 := hb3
  have kc := fun o => (hx3.cells).1 w.heap.size o (by omega)
  have kd := fun o => (hx3.cells).1 (w.heap.size + 1) o (by omega)
  have m0 := (kc 0).trans k0
  have m1 := (kc 1).trans k1
  have m2 := (kc 2).trans k2
  have m3 := (kc 3).trans k3
  have m4 := (kc 4).trans k4
  have n0 := (kd 0).trans d0
  have n1 := (kd 1).trans d1
  have n2 := (kd 2).trans d2
  have n3 := (kd 3).trans d3
  have n4 := (kd 4).trans d4
  have HX := Lib.hid (Xt.trans HG.out.xt hx3)
  clear hb3 hx3 kc kd c0 c1 c2 c3 c4 k0 k1 k2 k3 k4 d0 d1 d2 d3 d4 hw0 hw1
  cases vd
  all_goals
    go_wp2_with fail
    all_goals (go_ret; refine ⟨?_, HX.out⟩; first | (simp [restB, *]; done) | (simp [restB, *]; omega) | (simp [restB, toList_nil, *]; intros; exfalso; omega) | (by_cases hx : x = 0 <;> simp_all [restB, toList_nil, feq00]; done))
set_option maxRecDepth 100000 in
set_option maxHeartbeats 4000000 in
theorem vvalid_3 (x : Nat) (s : ByteArray) (b : Bool) (f : Int) (w : World) :
    Calls Tryz.prog 97 #[valW 3 x s b f] w fun e w' => e = .returned (.bool (restB x s false f)) ∧ Xt w w' := by
  obtain ⟨w0, hw0, hg0, hs0, c0, c1, c2, c3, c4⟩ := boxV w ⟨3, x, s, b, f⟩ 48
  simp only at hw0 c0 c1 c2 c3 c4
  have HG0 := Lib.hid hg0
  clear hg0
  go_enter Tryz.func97, Tryz.ntmps97
  go_wp2_with fail
  all_goals (go_ret; refine ⟨?_, (HG0.out.alloc _).xt⟩; first | (simp [restB, *]; done) | (simp [restB, toList_nil, *]; omega) | (simp [restB, toList_nil, *]; intros; exfalso; omega) | (by_cases hx : x = 0 <;> simp_all [restB, toList_nil, feq00]; done))
set_option maxRecDepth 100000 in
set_option maxHeartbeats 4000000 in
theorem vvalid_4 (x : Nat) (s : ByteArray) (b : Bool) (f : Int) (w : World) :
    Calls Tryz.prog 97 #[valW 4 x s b f] w fun e w' => e = .returned (.bool ((decide (1 ≤ f) && decide (f ≤ 5) && restB x s b 0))) ∧ Xt w w' := by
  obtain ⟨w0, hw0, hg0, hs0, c0, c1, c2, c3, c4⟩ := boxV w ⟨4, x, s, b, f⟩ 48
  simp only at hw0 c0 c1 c2 c3 c4
  have HG0 := Lib.hid hg0
  clear hg0
  go_enter Tryz.func97, Tryz.ntmps97
  go_wp2_with fail
  all_goals (go_ret; refine ⟨?_, (HG0.out.alloc _).xt⟩; first | (simp [restB, *]; done) | (simp [restB, *]; omega) | (simp [restB, toList_nil, *]; intros; exfalso; omega) | (by_cases hx : x = 0 <;> simp_all [restB, toList_nil, feq00]; done))
set_option maxRecDepth 100000 in
set_option maxHeartbeats 4000000 in
theorem vvalid_none (k : Int) (x : Nat) (s : ByteArray) (b : Bool) (f : Int) (w : World) (h : ¬ (0 ≤ k ∧ k ≤ 4)) :
    Calls Tryz.prog 97 #[valW k x s b f] w fun e w' => e = .returned (.bool false) ∧ Xt w w' := by
  obtain ⟨w0, hw0, hg0, hs0, c0, c1, c2, c3, c4⟩ := boxV w ⟨k, x, s, b, f⟩ 48
  simp only at hw0 c0 c1 c2 c3 c4
  have HG0 := Lib.hid hg0
  clear hg0
  have e0 : (k == 0) = false := by simp; omega
  have e1 : (k == 1) = false := by simp; omega
  have e2 : (k == 2) = false := by simp; omega
  have e3 : (k == 3) = false := by simp; omega
  have e4 : (k == 4) = false := by simp; omega
  clear h
  go_enter Tryz.func97, Tryz.ntmps97
  go_wp2_with fail
  go_ret
  exact ⟨rfl, (HG0.out.alloc _).xt⟩
def vvalidB (v : ValT) : Bool :=
  if v.kind = 0 then restB v.x v.s v.b v.f else
  if v.kind = 1 then restB 0 v.s v.b v.f else
  if v.kind = 2 then (Lib.validD v.s.data.toList && decide ((v.s.size : Int) ≤ 1024) && restB v.x ⟨#[]⟩ v.b v.f) else
  if v.kind = 3 then restB v.x v.s false v.f else
  if v.kind = 4 then (decide (1 ≤ v.f) && decide (v.f ≤ 5) && restB v.x v.s v.b 0) else
  false
theorem vvalid_any (v : ValT) (w : World) (hs : v.s.size ≤ 9223372036854775807) (hT : Tabs w) :
    Calls Tryz.prog 97 #[valV v] w fun e w' => e = .returned (.bool (vvalidB v)) ∧ Xt w w' := by
  obtain ⟨k, x, s, b, f⟩ := v
  simp only at hs
  show Calls Tryz.prog 97 #[valW k x s b f] w _
  unfold vvalidB
  simp only
  by_cases h0 : k = 0
  · subst h0
    simp only [reduceIte, Int.reduceEq]
    exact vvalid_0 x s b f w
  by_cases h1 : k = 1
  · subst h1
    simp only [reduceIte, Int.reduceEq]
    exact vvalid_1 x s b f w
  by_cases h2 : k = 2
  · subst h2
    simp only [reduceIte, Int.reduceEq]
    exact vvalid_2 x s b f w hs hT
  by_cases h3 : k = 3
  · subst h3
    simp only [reduceIte, Int.reduceEq]
    exact vvalid_3 x s b f w
  by_cases h4 : k = 4
  · subst h4
    simp only [reduceIte, Int.reduceEq]
    exact vvalid_4 x s b f w
  simp only [h0, h1, h2, h3, h4, if_false]
  exact vvalid_none k x s b f w (by omega)
end Go.Proofs.YtlgkaipgdhcajaaGreatDoor
