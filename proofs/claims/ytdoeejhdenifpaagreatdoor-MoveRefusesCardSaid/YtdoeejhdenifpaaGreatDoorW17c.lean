import Derived.Test.YtdoeejhdenifpaaGreatDoorA3
namespace Go.Proofs.YtdoeejhdenifpaaGreatDoor
open Go.RowKit Go.Sort
set_option maxRecDepth 100000 in
set_option maxHeartbeats 16000000 in
theorem fault_0 (n : Nat) (ih : ∀ m, m < n → FaultIs m) (t : NodeT) (a : Option Addr) (cap : Nat) (ins : Bool) (w : World) (hok : t.ok) (hT : Tabs w) (hin : ArgsIn w n (.slice a t.args.length cap) t.args) (hk5 : (t.kind == 5) = false) (hk6 : (t.kind == 6) = false) (hk9 : (t.kind == 9) = false) :
    Calls Tryz.prog 135 #[nodeV t a t.args.length cap, .bool ins] w fun e w' => e = .returned (.int .i64 (faultT t ins)) ∧ Xt w w' := by
 have HIN := Lib.hid hin
 obtain ⟨_, _, he, q1, q2⟩ := hin.shape
 cases he
 have IH := Lib.hid ih
 have HOK := Lib.hid hok
 have HT := Lib.hid hT
 obtain ⟨w0, hw0, hg0, hs0, hN⟩ := boxN w t a t.args.length cap 49
 have HG0 := Lib.hid hg0
 have HN := Lib.hid hN
 have HMADE := Lib.hid (made_any t a cap w0 hok (hT.xt hg0.xt))
 obtain ⟨c0, c1, c2, c3, c4, c5, c6, c7, c8, c9, c10, c11, c12, c13, c14⟩ := hN
 simp only [Nat.zero_add] at c0 c1 c2 c3 c4 c5 c6 c7 c8 c9 c10 c11 c12 c13 c14
 have H5 := Lib.hid (valid_gr t.ref.a.1 t.ref.a.2)
 have H6 := Lib.hid (ValidArea_any t.ref.a.1 t.ref.a.2 t.to.a.1 t.to.a.2)
 have H9 := Lib.hid (Known_any t.s)
 generalize hans : faultT t ins = ans
 have HA := Lib.hid hans
 rw [faultT_eq] at HA
 generalize madeB t = mb at HMADE HA
 generalize hva : (validB t.ref.a.1 t.ref.a.2 && validB t.to.a.1 t.to.a.2 && decide (t.ref.a.1 ≤ t.to.a.1) && decide (t.ref.a.2 ≤ t.to.a.2)) = va at H6 HA
 generalize hvb : validB t.ref.a.1 t.ref.a.2 = vb at H5 HA
 generalize knownF t.s.toList = kn at H9 HA
 obtain ⟨kn1, kn2, kn3⟩ := kn
 simp only at H9 HA
 rw [hk5, hk6, hk9] at HA
 clear hans hva hvb hok hT hg0 hin ih
 go_enter Tryz.func135, Tryz.ntmps135
 go_wp2_with fail
 refine (HMADE.out).mono ?_
 rintro e w1 ⟨rfl, hx1⟩
 have HN1 := Lib.hid (HN.out.xt hx1)
 have HX1 := Lib.hid (HG0.out.xt.trans hx1)
 have hsz1 : w.heap.size < w1.heap.size := by have := hx1.sz; omega
 clear hx1 hw0 c0 c1 c2 c3 c4 c5 c6 c7 c8 c9 c10 c11 c12 c13 c14
 obtain ⟨c0, c1, c2, c3, c4, c5, c6, c7, c8, c9, c10, c11, c12, c13, c14⟩ := HN1.out
 simp only [Nat.zero_add] at c0 c1 c2 c3 c4 c5 c6 c7 c8 c9 c10 c11 c12 c13 c14
 cases mb with
 | false =>
  go_wp2_with fail
  go_ret
  exact ⟨congrArg (fun z => Ending.returned (.int .i64 z)) HA.out, HX1.out⟩
 | true =>
  simp only [reduceIte] at HA
  try simp only [reduceIte, Bool.false_eq_true] at HA
  go_wp2_with fail
  have HF : Hid (faultL (t.args.drop 0) false = ans) := by have h := HA.out; rw [List.drop_zero]; exact h
  clear c0 c1 c2 c3 c4 c5 c6 c7 c8 c9 c10 c11 c12 c13 c14
  go_loopw [62] (fun s62 wr => ∃ i : Nat, i ≤ t.args.length ∧ s62 = .int .i64 i ∧ Hid (faultL (t.args.drop i) false = ans) ∧ Hid (Xt w1 wr)) (fun s62 _ => t.args.length - (intOf s62).toNat)
  case atStart => exact ⟨0, Nat.zero_le _, rfl, HF, Xt.refl _⟩
  case round =>
   obtain ⟨i, hi, rfl, HWi, HG⟩ := hrel
   have hNr := HN1.out.xt HG.out
   have c0 := hNr.c0
   have c14 := hNr.c14
   simp only [Nat.zero_add] at c0 c14
   by_cases hlt : i < t.args.length
   · have hii : (i : Int) < (t.args.length : Int) := by omega
     obtain ⟨u, hx⟩ : ∃ u, t.args[i]? = some u := ⟨t.args[i], by simp [hlt]⟩
     have hdr := drop_at hx
     obtain ⟨n', bk, off, a', c', hn, rfl, hA, hI⟩ := HIN.out.at hx
     have hxw : Xt w wr := HX1.out.trans HG.out
     have hou := okL_at (NodeT.ok_args HOK.out) hx
     obtain ⟨d0, d1, d2, d3, d4, d5, d6, d7, d8, d9, d10, d11, d12, d13, d14⟩ := hA.xt hxw
     obtain ⟨wq, hwq, hgq, hsq, hB⟩ := boxN wr u a' u.args.length c' 49
     obtain ⟨e0, e1, e2, e3, e4, e5, e6, e7, e8, e9, e10, e11, e12, e13, e14⟩ := hB
     simp only [Nat.zero_add] at e0 e1 e2 e3 e4 e5 e6 e7 e8 e9 e10 e11 e12 e13 e14
     have c0q : wq.cell? ⟨w.heap.size, 0, none⟩ = some (.int .i64 t.kind) := ((hgq.xt.cells).1 _ _ (World.block_lt_of_cell? _ _ c0)).trans c0
     have hcall := IH.out n' (by omega) u a' c' false wq hou (HT.out.xt (hxw.trans hgq.xt)) ((hI.xt hxw).xt hgq.xt)
     have hf := HWi.out
     rw [hdr] at hf
     simp only [faultL] at hf
     have HCALL := Lib.hid hcall
     have HF := Lib.hid hf
     have HGQ := Lib.hid hgq
     generalize faultT u false = fu at HF HCALL
     clear hx hdr hA hI hn hcall hxw hgq hf hou hNr
     by_cases hz : fu = 0
     · subst hz
       have HF2 : Hid (faultL (t.args.drop (i + 1)) false = ans) := by have h := HF.out; rw [if_pos rfl] at h; exact h
       go_wp2_with fail
       refine (HCALL.out).mono ?_
       rintro e w4 ⟨rfl, hg4⟩
       have HG4 := Lib.hid hg4
       clear hg4 d0 d1 d2 d3 d4 d5 d6 d7 d8 d9 d10 d11 d12 d13 d14 e0 e1 e2 e3 e4 e5 e6 e7 e8 e9 e10 e11 e12 e13 e14
       go_wp2_with fail
       go_roundw
       case rel => exact ⟨i + 1, by omega, by go_num, HF2, (HG.out.trans HGQ.out.xt).trans HG4.out⟩
       case measure => simp [intOf]; omega
     · have HF2 : Hid (fu = ans) := by have h := HF.out; rw [if_neg hz] at h; exact h
       have hzb : (fu == 0) = false := by simpa using hz
       go_wp2_with fail
       refine (HCALL.out).mono ?_
       rintro e w4 ⟨rfl, hg4⟩
       have HG4 := Lib.hid hg4
       clear hg4 d0 d1 d2 d3 d4 d5 d6 d7 d8 d9 d10 d11 d12 d13 d14 e0 e1 e2 e3 e4 e5 e6 e7 e8 e9 e10 e11 e12 e13 e14
       go_wp2_with fail
       go_ret
       exact ⟨congrArg (fun z => Ending.returned (.int .i64 z)) HF2.out, HX1.out.trans ((HG.out.trans HGQ.out.xt).trans HG4.out)⟩
   · have HE : Hid (0 = ans) := by
      have h := HWi.out
      rw [List.drop_eq_nil_of_le (by omega)] at h
      simp only [faultL] at h
      exact h
     go_wp2_with fail
     go_ret
     exact ⟨congrArg (fun z => Ending.returned (.int .i64 z)) HE.out, HX1.out.trans HG.out⟩
end Go.Proofs.YtdoeejhdenifpaaGreatDoor
