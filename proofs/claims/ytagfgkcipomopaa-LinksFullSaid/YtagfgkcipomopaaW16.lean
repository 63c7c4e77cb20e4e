import Derived.Test.YtagfgkcipomopaaW15
import Derived.Test.YtagfgkcipomopaaL9
import Derived.Deep.DeepCutAuto
namespace Go.Proofs.Ytagfgkcipomopaa
open Go.RowKit Go.Sort

/-! ### LinksFull -/
theorem rest_any (k n : Int) (hn : 0 < n) (hn2 : n ≤ 8796093022208) : ∃ K : Nat, (K : Int) < n ∧ ∀ w, Calls Try.prog 17 #[.int .i64 k, .int .i64 n] w fun e w' => e = .returned (.int .i64 K) ∧ w = w' := by
  obtain ⟨K, h1, h2, _⟩ := pick_pos (p := k) hn hn2
  refine ⟨K, h2, fun w => ?_⟩
  have hn0 : ¬ n = 0 := by omega
  have hn1 : (n == 0) = false := by rw [beq_eq_false_iff_ne]; exact hn0
  go_enter Try.func17, Try.ntmps17
  go_wp2
  go_ret
  exact ⟨rfl, rfl⟩
theorem tmod_nat (k : Nat) : (k : Int).tmod 256 = ((k % 256 : Nat) : Int) := by
  rw [Int.tmod_eq_emod_of_nonneg (by omega)]; rfl
theorem tdiv_nat (k : Nat) : (k : Int).tdiv 256 = ((k / 256 : Nat) : Int) := by
  rw [Int.tdiv_eq_ediv_of_nonneg (by omega)]; rfl
set_option maxRecDepth 100000 in
set_option maxHeartbeats 2000000 in
theorem full4_any (a b : Ad) (w : World) : Calls Try.prog 4 #[.agg #[.int .i64 a.1, .int .i64 a.2], .agg #[.int .i64 b.1, .int .i64 b.2]] w fun e w' => e = .returned (.bool true) ∧ Xt w w' := by
  obtain ⟨w0, hw0, hb0, hs0, c0, c1, c2, c3⟩ := box2 w a.1 a.2 b.1 b.2 34 34
  have HX0 : Hid (Xt w w0) := hb0
  clear hb0
  go_enter Try.func4, Try.ntmps4
  go_wp2_with fail
  clear hw0
  refine (awake_any _).mono ?_
  rintro e w1 ⟨rfl, hx1⟩
  have hs1 := hx1.sz
  rw [← (hx1.cells).1 _ _ (by omega)] at c0 c1 c2 c3
  have HX1 : Hid (Xt w w1) := HX0.out.trans hx1
  clear hx1
  go_wp2_with fail
  refine (new_any _).mono ?_
  rintro e w2 ⟨rfl, hL, hg⟩
  have hs2 := hg.xt.sz
  rw [← (hg.xt.cells).1 _ _ (by omega)] at c0 c1 c2 c3
  have HX2 : Hid (Xt w w2) := HX1.out.trans hg.xt
  have HL2 : Hid (Lk w2 (w1.heap.size + 1) w1.heap.size (fun x => x < w2.heap.size) []) := hL.keep (fun _ _ => rfl) (fun b hb => hb.2)
  have hbm2 : w1.heap.size < w2.heap.size := hL.inM.2
  obtain ⟨bm, hbm⟩ : ∃ n, w1.heap.size = n := ⟨_, rfl⟩
  rw [hbm] at HL2 hbm2 hs1 ⊢
  clear hL hg hs2 hbm
  go_wp2_with fail
  go_loopw [7] (fun i wr => ∃ k : Nat, k ≤ 4096 ∧ i = .int .i64 k ∧ Hid (Lk wr (bm + 1) bm (fun x => x < wr.heap.size) (fullM k)) ∧ Hid (w2.grownBy wr (some bm))) (fun i _ => 4096 - (intOf i).toNat)
  case atStart => exact ⟨0, Nat.zero_le _, rfl, HL2, ⟨rfl, rfl, rfl, Nat.le_refl _, fun _ _ _ => rfl⟩⟩
  case round =>
    obtain ⟨k, hk, rfl, HL, HG⟩ := hrel
    by_cases hlt : k < 4096
    · have hm := tmod_nat k
      have hd := tdiv_nat k
      have hki : (k : Int) < 4096 := by omega
      go_wp2_with fail
      refine (set16_any (bm + 1) bm (fun x => x < wr.heap.size) (fullM k) (fullA k) _ [] wr HL.out (fun _ h => h) (SlOf.nil _ _ _ _ _ (by omega))).mono ?_
      rintro e w3 ⟨rfl, hL3, hg3⟩
      rw [(full_set hlt).1]
      rw [(full_set hlt).2] at hL3
      have HL3 : Hid (Lk w3 (bm + 1) bm (fun x => x < w3.heap.size) (fullM (k + 1))) := hL3.keep (fun _ _ => rfl) (fun b hb => by have := hg3.size; rcases hb with hb | hb <;> omega)
      have HG3 : Hid (w2.grownBy w3 (some bm)) := gb_trans HG.out hg3
      clear hL3 hg3 hm hd
      go_wp2_with fail
      go_roundw
      case rel => exact ⟨k + 1, by omega, by go_num, HL3, HG3⟩
      case measure => simp [intOf]; omega
    · have hk4 : k = 4096 := by omega
      subst hk4
      have hs3 := HG.out.size
      rw [← cell_grown HG.out (by omega) (by omega)] at c0 c1 c2 c3
      have HX3 : Hid (Xt w wr) := HX2.out.grownBy HG.out (by omega)
      obtain ⟨K1, hK1, r1⟩ := rest_any a.1 256 (by omega) (by omega)
      obtain ⟨K2, hK2, r2⟩ := rest_any a.2 16 (by omega) (by omega)
      obtain ⟨K3, hK3, r3⟩ := rest_any b.1 256 (by omega) (by omega)
      obtain ⟨K4, hK4, r4⟩ := rest_any b.2 4080 (by omega) (by omega)
      have R1 := Lib.hid r1
      have R2 := Lib.hid r2
      have R3 := Lib.hid r3
      have R4 := Lib.hid r4
      clear r1 r2 r3 r4
      have s1 : IntKind.i64.wrap (1 + (K1 : Int)) = 1 + (K1 : Int) := IntWalk.i64_in _ (by omega)
      have s2 : IntKind.i64.wrap (1 + (K2 : Int)) = 1 + (K2 : Int) := IntWalk.i64_in _ (by omega)
      have s3 : IntKind.i64.wrap (1 + (K3 : Int)) = 1 + (K3 : Int) := IntWalk.i64_in _ (by omega)
      have s4 : IntKind.i64.wrap (17 + (K4 : Int)) = 17 + (K4 : Int) := IntWalk.i64_in _ (by omega)
      have n0 := World.new_ne wr _ c0
      have n1 := World.new_ne wr _ c1
      have n2 := World.new_ne wr _ c2
      have n3 := World.new_ne wr _ c3
      go_upto_region 11 with fail
      go_cut [9] (fun s9 wx => s9 = .pointer (some ⟨wr.heap.size, 0, none⟩) ∧ wx.heap.size = wr.heap.size + 1 ∧ Hid (Xt wr wx) ∧ wx.cell? ⟨wr.heap.size, 0, none⟩ = some (.int .i64 (1 + (K1 : Int))) ∧ wx.cell? ⟨wr.heap.size, 1, none⟩ = some (.int .i64 (1 + (K2 : Int))))
      case first =>
        clear n2 n3 c2 c3 s3 s4
        go_region_held3 (fun w' => w'.cell? ⟨w.heap.size, 0, none⟩ = some (.int .i64 a.1) ∧ w'.cell? ⟨w.heap.size, 1, none⟩ = some (.int .i64 a.2)) (go_keep) (first
          | (go_at_call_of 17 (Value.int .i64 a.1); refine (R1.out _).mono ?_; rintro e w' ⟨rfl, rfl⟩)
          | (go_at_call_of 17 (Value.int .i64 a.2); refine (R2.out _).mono ?_; rintro e w' ⟨rfl, rfl⟩))
        all_goals (go_wp2_with fail; go_meet; exact ⟨rfl, by simp, ((Xt.refl _).drew.alloc _), by simp, by simp⟩)
      case rest =>
        obtain ⟨rfl, hsc, hxc, p0, p1⟩ := hcut
        rw [← (hxc.out.cells).1 _ _ (by omega)] at c2 c3
        have n2 := World.new_ne wc _ c2
        have n3 := World.new_ne wc _ c3
        have HSC : Hid (wc.heap.size = wr.heap.size + 1) := hsc
        have HXC := Lib.hid hxc.out
        have HXW : Hid (Xt w wr) := HX3.out
        have HLC : Hid (Lk wc (bm + 1) bm (fun x => x < wr.heap.size) (fullM 4096)) := HL.out.xt (fun b hb => hb) hxc.out
        have n4 := World.new_ne wc _ p0
        have n5 := World.new_ne wc _ p1
        obtain ⟨ka, hka⟩ : ∃ n, wr.heap.size = n := ⟨_, rfl⟩
        rw [hka] at p0 p1 n4 n5 HLC ⊢
        have HKA := Lib.hid hka
        have hkalt : ka < wc.heap.size := by omega
        clear hsc hxc c0 c1 n0 n1 s1 s2 hka
        obtain ⟨wq, hwq⟩ : ∃ wq, wq = wc := ⟨_, rfl⟩
        subst hwq
        go_upto_region 12 with fail
        go_cut [10] (fun s10 wx => s10 = .pointer (some ⟨wq.heap.size, 0, none⟩) ∧ wx.heap.size = wq.heap.size + 1 ∧ Hid (Xt wq wx) ∧ wx.cell? ⟨wq.heap.size, 0, none⟩ = some (.int .i64 (1 + (K3 : Int))) ∧ wx.cell? ⟨wq.heap.size, 1, none⟩ = some (.int .i64 (17 + (K4 : Int))))
        case first =>
          clear n4 n5 p0 p1
          go_region_held3 (fun w' => w'.cell? ⟨w.heap.size + 1, 0, none⟩ = some (.int .i64 b.1) ∧ w'.cell? ⟨w.heap.size + 1, 1, none⟩ = some (.int .i64 b.2)) (go_keep) (first
            | (go_at_call_of 17 (Value.int .i64 b.1); refine (R3.out _).mono ?_; rintro e w' ⟨rfl, rfl⟩)
            | (go_at_call_of 17 (Value.int .i64 b.2); refine (R4.out _).mono ?_; rintro e w' ⟨rfl, rfl⟩))
          all_goals (go_wp2_with fail; go_meet; exact ⟨rfl, by simp, ((Xt.refl _).drew.alloc _), by simp, by simp⟩)
        case rest =>
          obtain ⟨rfl, hsz, hxz, r0, r1⟩ := hcut
          have hA : ((1 + (K1 : Int), 1 + (K2 : Int)) : Ad) = fullA (K1 + 256 * K2) := by
            unfold fullA
            exact Prod.ext (by show 1 + (K1 : Int) = 1 + (((K1 + 256 * K2) % 256 : Nat) : Int); omega) (by show 1 + (K2 : Int) = 1 + (((K1 + 256 * K2) / 256 : Nat) : Int); omega)
          have hS : FullSaid (fullM 4096) (fullA (K1 + 256 * K2)) (1 + (K3 : Int), 17 + (K4 : Int)) := full_said (by omega) (by show 1 ≤ 1 + (K3 : Int); omega) (by show 1 + (K3 : Int) ≤ 256; omega) (by show 17 ≤ 17 + (K4 : Int); omega) (by show 17 + (K4 : Int) ≤ 4096; omega)
          rw [← hA] at hS
          obtain ⟨S1, S2, S3, S4, S5, S6, S7⟩ := hS
          have T1 := Lib.hid S1
          have T2 := Lib.hid S2
          have T3 := Lib.hid S3
          have T4 := Lib.hid S4
          have T5 := Lib.hid S5
          have T6 := Lib.hid S6
          have T7 := Lib.hid S7
          have hbmw : w.heap.size ≤ bm := by omega
          have hbmk : bm < ka := by have := HKA.out; omega
          rw [← (hxz.out.cells).1 _ _ hkalt] at p0 p1
          have HXz : Hid (Xt w wc) := (HXW.out.trans HXC.out).trans hxz.out
          have HLz : Hid (Lk wc (bm + 1) bm (fun x => x < wc.heap.size) (fullM 4096)) := (HLC.out.xt (fun b hb => by have := HKA.out; have := HSC.out; omega) hxz.out).keep (fun _ _ => rfl) (fun b hb => by have := HKA.out; have := HSC.out; omega)
          obtain ⟨kb, hkb⟩ : ∃ n, wq.heap.size = n := ⟨_, rfl⟩
          rw [hkb] at r0 r1 hsz hkalt ⊢
          generalize fullM 4096 = M0 at *
          generalize hAA : (1 + (K1 : Int)) = a1 at *
          generalize hAB : (1 + (K2 : Int)) = a2 at *
          generalize hBA : (1 + (K3 : Int)) = b1 at *
          generalize hBB : (17 + (K4 : Int)) = b2 at *
          have hkbz : kb < wc.heap.size := by omega
          clear S1 S2 S3 S4 S5 S6 S7 hxz HLC HXC HXW HSC HKA hA hAA hAB hBA hBB hsz hkb c2 c3 n2 n3 n4 n5 s3 s4 HL HX3 R1 R2 R3 R4
          go_wp2_with fail
          refine (set16_any (bm + 1) bm (fun x => x < wc.heap.size) M0 (b1, b2) _ [] wc HLz.out (fun _ h => h) (SlOf.nil _ _ _ _ _ (by omega))).mono ?_
          rintro e w6 ⟨rfl, hL6, hg6⟩
          rw [T1.out]
          have HL6 : Hid (Lk w6 (bm + 1) bm (fun x => x < w6.heap.size) (setTo M0 (b1, b2) [])) := hL6.keep (fun _ _ => rfl) (fun b hb => by have := hg6.size; rcases hb with hb | hb <;> omega)
          have HX6 : Hid (Xt w w6) := HXz.out.grownBy hg6 hbmw
          rw [← cell_grown hg6 (by omega) (by omega)] at p0 p1
          rw [← cell_grown hg6 (by omega) (by omega)] at r0 r1
          have z6 : kb < w6.heap.size := by have := hg6.size; omega
          generalize setTo M0 (b1, b2) [] = M1 at *
          clear hL6 hg6 HLz HXz hkbz
          go_wp2_with fail
          refine (set16_any (bm + 1) bm (fun x => x < w6.heap.size) M1 (a1, a2) _ [((b1, b2), (b1, b2))] _ (HL6.out.xt (fun _ h => h) ((Xt.refl _).alloc _)) (fun b hb => by simp; omega) (SlOf.newRow _ _ arC_len 41 rfl (by simp) rfl rfl rfl)).mono ?_
          rintro e w7 ⟨rfl, hL7, hg7⟩
          rw [T2.out]
          have hsz7 : w6.heap.size + 1 ≤ w7.heap.size := by have := hg7.size; simpa using this
          have HL7 : Hid (Lk w7 (bm + 1) bm (fun x => x < w7.heap.size) (setTo M1 (a1, a2) [((b1, b2), (b1, b2))])) := hL7.keep (fun _ _ => rfl) (fun b hb => by rcases hb with hb | hb <;> omega)
          have HX7 : Hid (Xt w w7) := (HX6.out.alloc _).grownBy hg7 hbmw
          have p07 := (cell_grown hg7 (by simp; omega) (by omega)).trans ((((Xt.refl w6).alloc (.cells #[.int .i64 b1, .int .i64 b2, .int .i64 b1, .int .i64 b2] 41)).cells.1 ka 0 (by omega)).trans p0)
          have p17 := (cell_grown hg7 (by simp; omega) (by omega)).trans ((((Xt.refl w6).alloc (.cells #[.int .i64 b1, .int .i64 b2, .int .i64 b1, .int .i64 b2] 41)).cells.1 ka 1 (by omega)).trans p1)
          have r07 := (cell_grown hg7 (by simp; omega) (by omega)).trans ((((Xt.refl w6).alloc (.cells #[.int .i64 b1, .int .i64 b2, .int .i64 b1, .int .i64 b2] 41)).cells.1 kb 0 (by omega)).trans r0)
          have r17 := (cell_grown hg7 (by simp; omega) (by omega)).trans ((((Xt.refl w6).alloc (.cells #[.int .i64 b1, .int .i64 b2, .int .i64 b1, .int .i64 b2] 41)).cells.1 kb 1 (by omega)).trans r1)
          generalize setTo M1 (a1, a2) [((b1, b2), (b1, b2))] = M2 at *
          clear hL7 hg7 HL6 HX6 p0 p1 r0 r1
          go_wp2_with fail
          refine (users_any (bm + 1) bm (fun x => x < w7.heap.size) M2 (b1, b2) w7 HL7.out (fun _ h => h)).mono ?_
          rintro e w8 ⟨vu, rfl, hown8, hx8⟩
          obtain ⟨au, cu, hvu, _, _, _⟩ := OwnL.sl hown8 adC_len
          rw [T3.out] at hvu
          subst hvu
          have HL8 : Hid (Lk w8 (bm + 1) bm (fun x => x < w7.heap.size) M2) := HL7.out.xt (fun _ h => h) hx8
          have HX8 : Hid (Xt w w8) := HX7.out.trans hx8
          have z8 := hx8.sz
          rw [← (hx8.cells).1 _ _ (by omega)] at p07 p17
          rw [← (hx8.cells).1 _ _ (by omega)] at r07 r17
          clear hown8 hx8 HL7 HX7
          go_wp2_with fail
          refine (drop_any (bm + 1) bm (fun x => x < w7.heap.size) M2 (a1, a2) w8 HL8.out (fun _ h => Nat.lt_of_lt_of_le h z8)).mono ?_
          rintro e w9 ⟨rfl, hL9, hg9⟩
          rw [T4.out]
          have HL9 : Hid (Lk w9 (bm + 1) bm (fun x => x < w7.heap.size) (delM (a1, a2) M2)) := hL9
          have HX9 : Hid (Xt w w9) := HX8.out.grownBy hg9 hbmw
          rw [← cell_grown hg9 (by omega) (by omega)] at p07 p17
          rw [← cell_grown hg9 (by omega) (by omega)] at r07 r17
          have z9 := hg9.size
          generalize delM (a1, a2) M2 = M3 at *
          clear hL9 hg9 HL8 HX8
          go_wp2_with fail
          refine (set16_any (bm + 1) bm (fun x => x < w7.heap.size) M3 (b1, b2) _ [] w9 HL9.out (fun _ h => by omega) (SlOf.nil _ _ _ _ _ (by omega))).mono ?_
          rintro e w10 ⟨rfl, hL10, hg10⟩
          rw [T5.out]
          have z10 := hg10.size
          have HL10 : Hid (Lk w10 (bm + 1) bm (fun x => x < w10.heap.size) (setTo M3 (b1, b2) [])) := hL10.keep (fun _ _ => rfl) (fun b hb => by rcases hb with hb | hb <;> omega)
          have HX10 : Hid (Xt w w10) := HX9.out.grownBy hg10 hbmw
          rw [← cell_grown hg10 (by omega) (by omega)] at p07 p17
          generalize setTo M3 (b1, b2) [] = M4 at *
          clear hL10 hg10 HL9 HX9 r07 r17
          go_wp2_with fail
          refine (set16_any (bm + 1) bm (fun x => x < w10.heap.size) M4 (a1, a2) _ [] w10 HL10.out (fun _ h => h) (SlOf.nil _ _ _ _ _ (by omega))).mono ?_
          rintro e w11 ⟨rfl, hL11, hg11⟩
          rw [T6.out]
          have HL11 := Lib.hid hL11
          have HX11 : Hid (Xt w w11) := HX10.out.grownBy hg11 hbmw
          clear hL11 hg11 HL10 HX10 p07 p17
          go_wp2_with (go_at_call 19; refine (len_any (bm + 1) bm _ _ w11 HL11.out).mono ?_; rintro e w12 ⟨rfl, rfl⟩; rw [T7.out])
          go_ret
          exact ⟨rfl, HX11.out⟩
end Go.Proofs.Ytagfgkcipomopaa
