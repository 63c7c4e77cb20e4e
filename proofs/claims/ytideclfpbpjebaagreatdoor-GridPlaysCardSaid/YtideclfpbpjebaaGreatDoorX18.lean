/- quadrillelaw17.GridPlays returns true for every input, and what is handed in reads afterwards as it read before; its row is tied to the program's text, which lays the two listed variables; no other condition. -/
import Derived.Test.YtideclfpbpjebaaGreatDoorB43
import Derived.Test.YtideclfpbpjebaaGreatDoorB44
import Derived.Test.YtideclfpbpjebaaGreatDoorB42
import Derived.OpenShut
namespace Go.Proofs.YtideclfpbpjebaaGreatDoor
section
open Go.RowKit Go.Sort Go.Maps Go.Shelf Go.MapKept
attribute [local go_sem] Oper.semAt_some

set_option maxRecDepth 100000 in
set_option maxHeartbeats 1000000 in
theorem step_while (w0 w : World) (wb gs rs k j : Nat) (p q : G5) (o : OpT) (n : Nat) (hT : Tabs w0) (h : St w0 w wb gs rs k j p q) (hk : pickZ o.on 2 = (k : Int)) (hkj : k < 2 ∧ j < 2 ∧ k + j = 1) (ho : I64 o.on ∧ I64 o.n) (hok : o.x.c.ok) (hsm : smallT o.x.c.t) (hin : ArgsIn w n (.slice o.x.p o.x.c.t.args.length o.x.cap) o.x.c.t.args)
    (hn : (o.kind == 1) = false ∧ (o.kind == 2) = false ∧ (o.kind == 3) = false ∧ (o.kind == 4) = false ∧ (o.kind == 5) = false ∧ (o.kind == 6) = false ∧ (o.kind == 7) = false ∧ (o.kind == 8) = true) : Calls Tryz.prog 7 #[.pointer (some ⟨wb, 0, none⟩), opV o] w (StepR w0 wb gs rs k j) := by
  obtain ⟨n1, n2, n3, n4, n5, n6, n7, n8⟩ := hn
  obtain ⟨w1, hw1⟩ : ∃ w1, w.alloc (.cells (opC o).toArray 50) = w1 := ⟨_, rfl⟩
  have HX1 : Hid (Xt w w1) := by unfold Hid; rw [← hw1]; exact (Xt.refl _).alloc _
  have HR1 : Hid (w1.heap[w.heap.size]? = some (Obj.cells (opC o).toArray 50 (0, 0))) := by unfold Hid; rw [← hw1]; exact (MapKept.heap_alloc w _).1
  have H0 := Lib.hid h
  have H := Lib.hid (h.xt HX1.out)
  have HT := Lib.hid (hT)
  have HOK := Lib.hid hok
  have HSM := Lib.hid hsm
  have HIN := Lib.hid hin
  have HO := Lib.hid ho
  have HKJ := Lib.hid hkj
  have HP := Lib.hid (pickz_any o.on 2 w1 ho.1.1 ho.1.2 (by omega) (by omega))
  rw [hk] at HP
  obtain ⟨g0, g1, g2, g3, g4, g5⟩ := H.out.cells
  obtain ⟨⟨c0, c1, c2, c3, c4⟩, _⟩ := opC_at HR1.out
  have hk2 : (k : Int) < 2 := by omega
  have hj2 : (j : Int) < 2 := by omega
  have hsub : IntKind.i64.wrap (1 - (k : Int)) = (j : Int) := by rw [IntKind.wrap_i64]; omega
  clear h hk ho hT hok hsm hin
  go_enter Tryz.func7, Tryz.ntmps7
  go_upto_region 44 with (first
    | (go_at_call 17; refine HP.out.mono ?_; rintro e w' ⟨rfl, rfl⟩))
  clear HP n1 n2 n3 n4 n5 n6 n7 n8
  have HW := Lib.hid (within_any w0 w1 wb gs rs k j p q o n HT.out H.out HKJ.out HO.out HOK.out HSM.out (HIN.out.xt HX1.out))
  go_wp2_with (first
    | (refine wpList_load_row (P := Tryz.prog) rfl 50 _ rfl w.heap.size rfl 50 _ (0, 0) _ HR1.out Tryz.underlying50 rfl (by kernel_rfl) ?_)
    | (go_at_call 33; refine HW.out.mono ?_; rintro e w2 ⟨rfl, p', q', hs⟩; have HS := Lib.hid hs; clear hs HW))
  go_ret
  exact ⟨rfl, p', q', HS.out⟩
theorem step_any (w0 w : World) (wb gs rs k j : Nat) (p q : G5) (o : OpT) (n : Nat) (hT : Tabs w0) (h : St w0 w wb gs rs k j p q) (hk : pickZ o.on 2 = (k : Int)) (hkj : k < 2 ∧ j < 2 ∧ k + j = 1) (ho : I64 o.on ∧ I64 o.n) (hok : o.x.c.ok) (hsm : smallT o.x.c.t) (hin : ArgsIn w n (.slice o.x.p o.x.c.t.args.length o.x.cap) o.x.c.t.args) :
    Calls Tryz.prog 7 #[.pointer (some ⟨wb, 0, none⟩), opV o] w (StepR w0 wb gs rs k j) := by
  cases n1 : (o.kind == 1)
  · cases n2 : (o.kind == 2)
    · cases n3 : (o.kind == 3)
      · cases n4 : (o.kind == 4)
        · cases n5 : (o.kind == 5)
          · cases n6 : (o.kind == 6)
            · cases n7 : (o.kind == 7)
              · cases n8 : (o.kind == 8)
                · exact step_none w0 w wb gs rs k j p q o h hk hkj ho ⟨n1, n2, n3, n4, n5, n6, n7, n8⟩
                · exact step_while w0 w wb gs rs k j p q o n hT h hk hkj ho hok hsm hin ⟨n1, n2, n3, n4, n5, n6, n7, n8⟩
              · exact step_there w0 w wb gs rs k j p q o n hT h hk hkj ho hok hsm hin ⟨n1, n2, n3, n4, n5, n6, n7⟩
            · exact step_equal w0 w wb gs rs k j p q o n hT h hk hkj ho hok hsm hin ⟨n1, n2, n3, n4, n5, n6⟩
          · exact step_clone w0 w wb gs rs k j p q o n hT h hk hkj ho hok hsm hin ⟨n1, n2, n3, n4, n5⟩
        · exact step_in w0 w wb gs rs k j p q o n hT h hk hkj ho hok hsm hin ⟨n1, n2, n3, n4⟩
      · exact step_all w0 w wb gs rs k j p q o n hT h hk hkj ho hok hsm hin ⟨n1, n2, n3⟩
    · exact step_get w0 w wb gs rs k j p q o n hT h hk hkj ho hok hsm hin ⟨n1, n2⟩
  · exact step_put w0 w wb gs rs k j p q o n hT h hk hkj ho hok hsm hin n1

/-- A script in memory. -/
structure OpsIn (w : World) (v : Value) (l : List OpT) : Prop where
  sl : SlOf w opC 30 v l
  args : ∀ x ∈ l, (I64 x.on ∧ I64 x.n) ∧ x.x.c.ok ∧ ∃ n, ArgsIn w n (.slice x.x.p x.x.c.t.args.length x.x.cap) x.x.c.t.args
theorem OpsIn.row {w : World} {a : Option Addr} {m cap i : Nat} {l : List OpT} {x : OpT} (h : OpsIn w (.slice a m cap) l) (hx : l[i]? = some x) : ∃ b off, a = some ⟨b, off, none⟩ ∧ w.rangeAt b (off + i * 30) (opC x) := by
  obtain ⟨a', cap', e, h1, h2, h3⟩ := h.sl
  cases e
  obtain ⟨b2, off2, rfl, hc⟩ := h3 (fun e => by rw [e] at hx; simp at hx)
  exact ⟨b2, off2, rfl, fun j u hu => hc i x hx j u hu⟩
abbrev zeroO : Array Value := #[.int .i64 0, .int .i64 0, .int .i64 0, .int .i64 0, .int .i64 0, .int .i64 0, .int .i64 0, .float .f64 0, .string ⟨#[]⟩, .bool false, .int .i64 0, .int .i64 0, .int .i64 0, .float .f64 0, .string ⟨#[]⟩, .bool false, .int .i64 0, .int .i64 0, .int .i64 0, .bool false, .bool false, .int .i64 0, .int .i64 0, .bool false, .bool false, .slice none 0 0, .int .i64 0, .int .i64 0, .int .i64 0, .int .i64 0]
theorem boxO (w : World) (x : OpT) : ∃ wZ wR, w.alloc (.cells #[.int .i64 0, .int .i64 0, .int .i64 0, .int .i64 0, .int .i64 0, .int .i64 0, .int .i64 0, .float .f64 0, .string ⟨#[]⟩, .bool false, .int .i64 0, .int .i64 0, .int .i64 0, .float .f64 0, .string ⟨#[]⟩, .bool false, .int .i64 0, .int .i64 0, .int .i64 0, .bool false, .bool false, .int .i64 0, .int .i64 0, .bool false, .bool false, .slice none 0 0, .int .i64 0, .int .i64 0, .int .i64 0, .int .i64 0] 50) = wZ ∧ wZ.setRow w.heap.size (opC x).toArray = wR ∧
    Hid (wZ.heap[w.heap.size]? = some (Obj.cells zeroO 50 (0, 0))) ∧ Hid (wR.heap[w.heap.size]? = some (Obj.cells (opC x).toArray 50 (0, 0))) ∧ Hid (Xt w wR) := by
  have h1 := (MapKept.heap_alloc w (.cells zeroO 50)).1
  exact ⟨_, _, rfl, rfl, h1, setRow_heap _ _ _ _ _ _ h1, ((Xt.refl w).alloc _).grownB (setRow_grown _ _ _) (fun m hm => by cases hm; exact Nat.le_refl _)⟩
theorem opC_one (x : OpT) : (opC x).toArray.all (·.oneCell') = true := all_oneCell_toArray fun u hu => by
  unfold opC at hu
  rcases List.mem_append.1 hu with hu | hu
  · rcases List.mem_append.1 hu with hu | hu
    · simp only [List.mem_cons, List.not_mem_nil, or_false] at hu
      rcases hu with rfl | rfl | rfl <;> rfl
    · exact inC1_one x.x u hu
  · simp only [List.mem_cons, List.not_mem_nil, or_false] at hu
    rcases hu with rfl | rfl | rfl | rfl <;> rfl
/-- Whichever grid a step is on. -/
theorem St.pick {w0 w : World} {wb gs rs : Nat} {p q : G5} (h : St w0 w wb gs rs 0 1 p q) (c : Int) : ∃ k j p' q', pickZ c 2 = ((k : Nat) : Int) ∧ (k < 2 ∧ j < 2 ∧ k + j = 1) ∧ St w0 w wb gs rs k j p' q' := by
  obtain ⟨h0, h1⟩ := pickZ_lt (c := c) (n := 2) (by omega)
  rcases (by omega : pickZ c 2 = 0 ∨ pickZ c 2 = 1) with e | e
  · exact ⟨0, 1, p, q, e, ⟨by omega, by omega, by omega⟩, h⟩
  · exact ⟨1, 0, q, p, e, ⟨by omega, by omega, by omega⟩, h.swap⟩
theorem St.back {w0 w : World} {wb gs rs k j : Nat} {p q : G5} (h : St w0 w wb gs rs k j p q) (hkj : k < 2 ∧ j < 2 ∧ k + j = 1) : ∃ p' q', St w0 w wb gs rs 0 1 p' q' := by
  rcases (by omega : (k = 0 ∧ j = 1) ∨ (k = 1 ∧ j = 0)) with ⟨rfl, rfl⟩ | ⟨rfl, rfl⟩
  · exact ⟨p, q, h⟩
  · exact ⟨q, p, h.swap⟩
theorem St.at_ {w0 w : World} {wb gs rs : Nat} {p q : G5} (h : St w0 w wb gs rs 0 1 p q) {i : Nat} (hi : i < 2) : ∃ j p' q', (i < 2 ∧ j < 2 ∧ i + j = 1) ∧ St w0 w wb gs rs i j p' q' := by
  rcases (by omega : i = 0 ∨ i = 1) with rfl | rfl
  · exact ⟨1, p, q, ⟨by omega, by omega, by omega⟩, h⟩
  · exact ⟨0, q, p, ⟨by omega, by omega, by omega⟩, h.swap⟩
set_option maxRecDepth 100000 in
set_option maxHeartbeats 2000000 in
theorem gridPlays_any (l : List OpT) (v : Value) (ws : World) (hT : Tabs ws) (hl : OpsIn ws v l) : Calls Tryz.prog 3 #[v] ws fun e w' => e = .returned (.bool true) ∧ Xt ws w' := by
  obtain ⟨la, lc, rfl, hlc, hlc2, _⟩ := hl.sl
  have HT := Lib.hid hT
  have HL := Lib.hid hl
  have HAW := Lib.hid (awake_any ws hT)
  have hm1 : True := trivial
  have hm2 : True := trivial
  clear hT hl
  go_enter Tryz.func3, Tryz.ntmps3
  go_upto_region 3 with (first
    | (go_at_call 4; refine HAW.out.mono ?_; rintro e w1 ⟨rfl, hx1⟩; have HX1 := Lib.hid hx1; clear hx1 HAW)
    | (go_at_call 5; have hm0 := hm1; clear hm0 hm1; refine (gnew_any _).mono ?_; rintro e w2 ⟨rfl, hG2, hg2⟩; obtain ⟨A, hA⟩ : ∃ A, w1.heap.size = A := ⟨_, rfl⟩; rw [hA] at hG2; have HG2 := Lib.hid hG2; have HX2 : Hid (Xt w1 w2) := Lib.hid hg2.xt; clear hG2 hg2)
    | (go_at_call 5; have hm0 := hm2; clear hm0 hm2; refine (gnew_any _).mono ?_; rintro e w3 ⟨rfl, hG3, hg3⟩; obtain ⟨B, hB⟩ : ∃ B, w2.heap.size = B := ⟨_, rfl⟩; rw [hB] at hG3; have HG3 := Lib.hid hG3; have HX3 : Hid (Xt w2 w3) := Lib.hid hg3.xt; clear hG3 hg3; obtain ⟨K, hK⟩ : ∃ K, w3.heap.size = K := ⟨_, rfl⟩; obtain ⟨v1, v2, v3, v4, e1, s1, e2, s2, e3, s3, e4, s4, HV4, HR0, HR1, HR2, HR3⟩ := bx4 hK #[.pointer (some ⟨A + 1, 0, none⟩), .pointer (some ⟨B + 1, 0, none⟩)] #[.slice none 0 0] #[.slice none 0 0] #[.pointer (some ⟨K + 1, 0, none⟩), .pointer (some ⟨K + 1 + 1, 0, none⟩)] 25 31 31 28; obtain ⟨v5, e5⟩ : ∃ v5, v4.alloc (.cells #[.slice (some ⟨K, 0, none⟩) 2 2, .slice (some ⟨K + 1 + 1 + 1, 0, none⟩) 2 2] 34) = v5 := ⟨_, rfl⟩))
  have hx5 : Xt v4 v5 := by rw [← e5]; exact (Xt.refl _).alloc _
  have hr5 : v5.heap[K + 1 + 1 + 1 + 1]? = some (Obj.cells #[.slice (some ⟨K, 0, none⟩) 2 2, .slice (some ⟨K + 1 + 1 + 1, 0, none⟩) 2 2] 34 (0, 0)) := by rw [← e5, ← s4]; exact (MapKept.heap_alloc v4 _).1
  have hA2 := HG2.out.lt.1
  have hB2 := HG3.out.lt.1
  have hz1 := HX1.out.size
  have hz3 := HX3.out.size
  have HST : Hid (St ws v5 (K + 1 + 1 + 1 + 1) K (K + 1 + 1 + 1) 0 1 ⟨A + 1, A, [], K + 1, []⟩ ⟨B + 1, B, [], K + 1 + 1, []⟩) := Lib.hid (by
    have hnil : ∀ {r : Nat}, v5.heap[r]? = some (Obj.cells #[.slice none 0 0] 31 (0, 0)) → DG v5 r [] := fun hr => ⟨⟨_, hr, ⟨⟨none, 0, rfl, by simp, by omega, fun h => absurd rfl h⟩, fun x hx => by cases hx⟩⟩, List.Pairwise.nil, by simp, fun x hx => by cases hx⟩
    have hV : Xt w3 v5 := HV4.out.trans hx5
    exact ⟨HX1.out.trans (HX2.out.trans (HX3.out.trans hV)), hr5, ⟨_, rowX hx5 HR0.out, rfl, rfl, rfl⟩, ⟨_, rowX hx5 HR3.out, rfl, rfl, rfl⟩, ⟨HG2.out.xt (HX3.out.trans hV), hnil (rowX hx5 HR1.out), rfl, GOk.nil, by show K + 1 ≠ A; omega, by show K + 1 ≠ A + 1; omega⟩, ⟨HG3.out.xt hV, hnil (rowX hx5 HR2.out), rfl, GOk.nil, by show K + 1 + 1 ≠ B; omega, by show K + 1 + 1 ≠ B + 1; omega⟩, ⟨by show A ≠ B; omega, by show K + 1 ≠ K + 1 + 1; omega⟩, ⟨by omega, by omega, by omega, by show ws.heap.size ≤ A; omega, by show ws.heap.size ≤ K + 1; omega, by show ws.heap.size ≤ B; omega, by show ws.heap.size ≤ K + 1 + 1; omega⟩⟩)
  clear e1 e2 e3 e4 e5 s1 s2 s3 s4 hx5 hr5 hA hB hK
  generalize K + 1 + 1 + 1 + 1 = wb at HST ⊢
  generalize K + 1 + 1 + 1 = rs at HST ⊢
  obtain ⟨q0, q1, q2, q3, q4, q5⟩ := HST.out.cells
  go_wp2_with fail
  go_loopw [5, 6] (fun s5 s6 wr => ∃ (i : Nat) (gv : Int) (p q : G5), i ≤ l.length ∧ s6 = .int .i64 i ∧ s5 = .int .i64 gv ∧ 0 ≤ gv ∧ gv ≤ 2147483647 ∧ Hid (St ws wr wb K rs 0 1 p q)) (fun _ s6 _ => l.length - (intOf s6).toNat)
  case atStart => exact ⟨0, 0, _, _, Nat.zero_le _, rfl, rfl, by omega, by omega, HST⟩
  case round =>
    clear q0 q1 q2 q3 q4 q5 HST
    obtain ⟨i, gv, p, q, hi, rfl, rfl, hg0, hg1, HST⟩ := hrel
    by_cases hlt : i < l.length
    · have hki : (i : Int) < (l.length : Int) := by omega
      obtain ⟨x, hx⟩ : ∃ x, l[i]? = some x := ⟨l[i], List.getElem?_eq_getElem hlt⟩
      obtain ⟨b, off, rfl, hrow⟩ := HL.out.row hx
      obtain ⟨hI, hok, n, hin⟩ := HL.out.args x (List.mem_of_getElem? hx)
      have hsz := hok.1
      have HOK := Lib.hid hok
      have HI := Lib.hid hI
      have HIN := Lib.hid hin
      have HRW : Hid (wr.rangeAt b (off + i * 30) (opC x)) := Lib.hid fun j u hu => HST.out.hx.cellsIn _ _ _ (hrow j u hu)
      obtain ⟨Kx, hKx⟩ : ∃ k, wr.heap.size = k := ⟨_, rfl⟩
      obtain ⟨wZ, w2, hwZ, hw2, HRZ, HR2, HX2⟩ := boxO wr x
      rw [hKx] at HRZ HR2 hw2
      have H2 := Lib.hid (HST.out.xt HX2.out)
      obtain ⟨a1, a2, hrg⟩ := opC_at HR2.out
      have hstr : w2.cell? ⟨Kx, 8, none⟩ = some (.string x.x.c.v.s) := by
        have := HR2.out
        simp [World.cell?, this]
        rfl
      have HRG := Lib.hid hrg
      have HHV := Lib.hid (heavy_any n x.x.c x.x.p x.x.cap w2 (HIN.out.xt (HST.out.hx.trans HX2.out)))
      have hn1 : IntKind.i64.wrap (gv + 1) = gv + 1 := by rw [IntKind.wrap_i64]; omega
      have hn2 : IntKind.i64.wrap (gv + 1 + (x.x.c.v.s.size : Int)) = gv + 1 + (x.x.c.v.s.size : Int) := by rw [IntKind.wrap_i64]; omega
      clear hx hrow hI hok hin hrg a1 a2
      go_upto_region 11 with (first
        | (refine wpList_load_mid (P := Tryz.prog) rfl 50 _ rfl b (off + i * 30) rfl (opC x) _ HRW.out Tryz.underlying50 rfl (by kernel_rfl) ?_; clear HRW)
        | (refine wpList_store_row (P := Tryz.prog) rfl 50 _ _ rfl Kx (opC x).toArray rfl rfl 50 _ HRZ.out (by kernel_rfl) rfl (opC_one x) ?_; clear HRZ; rw [hw2]))
      have hx02 := HST.out.hx.trans HX2.out
      have HX02 := Lib.hid hx02
      clear hstr hwZ hw2 hx02
      by_cases hgt : (2147483647 : Int) < gv + 1 + (x.x.c.v.s.size : Int)
      · go_wp2_with fail
        go_ret
        exact ⟨rfl, HX02.out⟩
      · obtain ⟨hv, hhv⟩ : ∃ b, heavyB x.x.c = b := ⟨_, rfl⟩
        rw [hhv] at HHV
        cases hv
        · have HSM := Lib.hid (small_of_heavy hhv)
          go_upto_region 13 with (first
            | (refine BigFrame.wpList_want (by rfl) (fun K hK => wp_load_mid 46 _ rfl Kx 5 rfl ((inC1 x.x).drop 2) _ HRG.out Tryz.underlying46 rfl (by kernel_rfl) (hK _ _ ?_)); clear hK K)
            | (go_at_call 6; refine HHV.out.mono ?_; rintro e w3 ⟨rfl, hg3⟩; have HX3 : Hid (Xt w2 w3) := Lib.hid hg3.xt; clear hg3 HHV))
          have HR3 := Lib.hid (rowX HX3.out HR2.out)
          obtain ⟨kk, jj, p', q', hpk, hkj, hs'⟩ := (H2.out.xt HX3.out).pick x.on
          have HKJ := Lib.hid hkj
          have HSP := Lib.hid (step_any ws w3 wb K rs kk jj p' q' x n HT.out hs' hpk hkj HI.out HOK.out HSM.out (HIN.out.xt (HX02.out.trans HX3.out)))
          clear hpk hkj hs'
          go_wp2_with (first
            | (refine wpList_load_row (P := Tryz.prog) rfl 50 _ rfl Kx rfl 50 _ (0, 0) _ HR3.out Tryz.underlying50 rfl (by kernel_rfl) ?_)
            | (go_at_call 7; refine HSP.out.mono ?_; rintro e w4 ⟨rfl, p4, q4, hs4⟩; obtain ⟨p5, q5, hs5⟩ := hs4.back HKJ.out; have HS5 := Lib.hid hs5; clear hs4 hs5 HSP))
          go_roundw
          case rel => exact ⟨i + 1, gv + 1 + (x.x.c.v.s.size : Int), p5, q5, by omega, by go_num, rfl, by omega, by omega, HS5⟩
          case measure => simp [intOf]; omega
        · go_wp2_with (first
            | (refine BigFrame.wpList_want (by rfl) (fun K hK => wp_load_mid 46 _ rfl Kx 5 rfl ((inC1 x.x).drop 2) _ HRG.out Tryz.underlying46 rfl (by kernel_rfl) (hK _ _ ?_)); clear hK K)
            | (go_at_call 6; refine HHV.out.mono ?_; rintro e w3 ⟨rfl, hg3⟩; have HX3 : Hid (Xt w2 w3) := Lib.hid hg3.xt; clear hg3 HHV))
          go_ret
          exact ⟨rfl, HX02.out.trans HX3.out⟩
    · have hki : ¬ (i : Int) < (l.length : Int) := by omega
      clear hlt hi
      go_upto_region 17 with fail
      go_loopw [9] (fun s9 wr => ∃ (i : Nat) (p q : G5), i ≤ 2 ∧ s9 = .int .i64 i ∧ Hid (St ws wr wb K rs 0 1 p q)) (fun s9 _ => 2 - (intOf s9).toNat)
      case atStart => exact ⟨0, p, q, by omega, rfl, HST⟩
      case round =>
        clear HST
        obtain ⟨i, p, q, hi, rfl, HST⟩ := hrel
        by_cases hlt : i < 2
        · have hki : (i : Int) < 2 := by omega
          obtain ⟨j, p', q', hkj, hs⟩ := HST.out.at_ hlt
          have HS := Lib.hid hs
          obtain ⟨vv, hcc, hPP⟩ := hs.pa.r.cell
          obtain ⟨la2, lc2, rfl, hlc3, hlc4⟩ := hPP.shape
          have HPP := Lib.hid hPP
          have HF : Hid (∀ V, Xt wr V → V.cell? ⟨wb, 0, none⟩ = some (.slice (some ⟨K, 0, none⟩) 2 2) ∧ V.cell? ⟨wb, 1, none⟩ = some (.slice (some ⟨rs, 0, none⟩) 2 2) ∧ V.cell? ⟨K, i, none⟩ = some (.pointer (some ⟨p'.g, 0, none⟩)) ∧ V.cell? ⟨rs, i, none⟩ = some (.pointer (some ⟨p'.r, 0, none⟩)) ∧ V.cell? ⟨p'.r, 0, none⟩ = some (.slice la2 p'.l.length lc2)) := Lib.hid fun V hV => by
            obtain ⟨u0, u1, u2, _, u4, _⟩ := (HS.out.xt hV).cells
            exact ⟨u0, u1, u2, u4, hV.cellsIn _ _ _ hcc⟩
          clear hs hPP
          go_upto_region 19 with fail
          have HXD : Hid (Xt wr wr.drew) := Lib.hid (Xt.refl _).drew
          refine rg (fun V => Xt wr V) HXD.out fun hHeld => ?_
          refine tk HF.out 0 ?_
          refine tk HF.out 1 ?_
          refine tk HF.out 2 ?_
          refine tk HF.out 3 ?_
          refine tk HF.out 4 ?_
          refine tk HF.out 5 ?_
          refine tk HF.out 6 ?_
          refine tk HF.out 8 ?_
          refine tk HF.out 9 ?_
          refine tk HF.out 10 ?_
          refine tk HF.out 11 ?_
          refine tk HF.out 12 ?_
          refine tk HF.out 13 ?_
          refine tk HF.out 14 ?_
          refine tk HF.out 15 ?_
          refine tk HF.out 16 ?_
          refine tk HF.out 17 ?_
          refine rdH 7 fun K hK => ?_
          go_simp
          refine (all_call _ _).mono ?_
          rintro e w6 ⟨rfl, hw6⟩
          have HTD := Lib.hid (told_all_any HS.out.pa HPP.out 0 wr.drew w6 HXD.out hw6)
          have HX6 : Hid (Xt wr w6) := Lib.hid (by rw [hw6]; exact (HXD.out.alloc _).alloc _)
          refine ko hK HX6.out fun hHe => ?_
          clear hK K hw6
          refine rdH 18 fun K hK => ?_
          go_simp
          refine HTD.out.mono ?_
          rintro e w7 ⟨rfl, hx7⟩
          have HX7 : Hid (Xt wr w7) := Lib.hid (HX6.out.trans hx7)
          refine ko hK HX7.out fun hHe2 => ?_
          clear hK K hx7
          refine tk HF.out 19 ?_
          refine wpAnyH_done (by kernel_rfl) ?_ _
          clear hHeld hHe hHe2 HTD
          go_wp2_with fail
          go_roundw
          case rel => exact ⟨i + 1, p, q, by omega, by go_num, HST.out.xt HX7.out⟩
          case measure => simp [intOf]; omega
        · have hki : ¬ (i : Int) < 2 := by omega
          go_wp2_with fail
          go_ret
          exact ⟨rfl, HST.out.hx⟩
end
section
open Go.ChangeShapes Go.WideShapes Go.ChangeAt Go.RowKit Go.Joins Go.Deep Go.Shelf

theorem Tryz.cellsArea : Tryz.prog.cellsOf 48 = 4 := by kernel_rfl
theorem Tryz.cellsOp : Tryz.prog.cellsOf 50 = 30 := by kernel_rfl
section
variable {H : Type} {enc : TypeId × Value → H} {W : World} {base : Nat} {spare : Nat → Bool} {held : Bool}
theorem open_i64 {n : Nat} {c : Value} {x : DataW H × List MemPlace} (h : DataW.trod enc Tryz.prog W base spare held n 3 [c] = some x) : ∃ k, c = .int .i64 k ∧ I64 k := by
  obtain ⟨m, e, _, hw⟩ := DataW.trod_int Tryz.underlying3 h
  simp at e
  exact ⟨m, e, bounds_i64 hw⟩
set_option maxRecDepth 100000 in
theorem open_area {n : Nat} {c0 c1 c2 c3 : Value} {x : DataW H × List MemPlace} (h : DataW.trod enc Tryz.prog W base spare held n 48 [c0, c1, c2, c3] = some x) : ∃ z : Ar, [c0, c1, c2, c3] = [.int .i64 z.1.1, .int .i64 z.1.2, .int .i64 z.2.1, .int .i64 z.2.2] := by
  obtain ⟨y0, y1, m, hx, hl, h0, h1⟩ := trod_struct2 Tryz.underlying48 h
  have g0 : DataW.trod enc Tryz.prog W base spare held m 36 [c0, c1] = some y0 := by simpa [Tryz.cellsAddr] using h0
  have g1 : DataW.trod enc Tryz.prog W base spare held m 36 [c2, c3] = some y1 := by simpa [Tryz.cellsAddr] using h1
  obtain ⟨a, ea⟩ := open_ad g0
  obtain ⟨b, eb⟩ := open_ad g1
  simp only [adC, List.cons.injEq, and_true] at ea eb
  obtain ⟨rfl, rfl⟩ := ea
  obtain ⟨rfl, rfl⟩ := eb
  exact ⟨(a, b), rfl⟩
set_option maxRecDepth 100000 in
set_option maxHeartbeats 1000000 in
theorem open_op {n : Nat} {cs : List Value} {x : DataW H × List MemPlace} (h : DataW.trod enc Tryz.prog W base spare held n 50 cs = some x) (hz : ∀ q ∈ x.1.weights Tryz.prog 50, q ≤ reachBytes) :
    ∃ o : OpT, cs = opC o ∧ (I64 o.on ∧ I64 o.n) ∧ o.x.c.ok ∧ ∃ n, ArgsIn W n (.slice o.x.p o.x.c.t.args.length o.x.cap) o.x.c.t.args := by
  obtain ⟨xs, m, _, rfl, hl, hlen, hf⟩ := DataW.trod_struct Tryz.underlying50 h
  rw [Tryz.cellsOp] at hl
  match xs, hlen with
  | [y0, y1, y2, y3, y4, y5], _ =>
    match cs, hl with
    | c0 :: c1 :: c2 :: c3 :: c4 :: r, hl =>
      have hr : r.length = 25 := by simpa using hl
      have g0 : DataW.trod enc Tryz.prog W base spare held m 3 [c0] = some y0 := by simpa [Tryz.cellsInt] using hf 0 _ rfl
      have g1 : DataW.trod enc Tryz.prog W base spare held m 3 [c1] = some y1 := by simpa [Tryz.cellsInt] using hf 1 _ rfl
      have g2 : DataW.trod enc Tryz.prog W base spare held m 3 [c2] = some y2 := by simpa [Tryz.cellsInt] using hf 2 _ rfl
      have g3 : DataW.trod enc Tryz.prog W base spare held m 36 [c3, c4] = some y3 := by simpa [Tryz.cellsAddr] using hf 3 _ rfl
      have g4 : DataW.trod enc Tryz.prog W base spare held m 46 (r.take 21) = some y4 := by simpa [Tryz.cellsContent] using hf 4 _ rfl
      have g5 : DataW.trod enc Tryz.prog W base spare held m 48 ((r.drop 21).take 4) = some y5 := by simpa [Tryz.cellsArea] using hf 5 _ rfl
      rw [List.take_of_length_le (by simp [hr])] at g5
      obtain ⟨on, rfl, b0⟩ := open_i64 g0
      obtain ⟨kind, rfl, b1⟩ := open_i64 g1
      obtain ⟨nn, rfl, b2⟩ := open_i64 g2
      obtain ⟨a, ea⟩ := open_ad g3
      obtain ⟨c, p, cap, n', e, q1, q2, q3⟩ := open_content g4 (fun q hq => hz q (by simp [DataW.weights, Tryz.underlying50, DataW.weightsEach, hq]))
      have h4 : (r.drop 21).length = 4 := by simp [hr]
      obtain ⟨z0, z1, z2, z3, hd⟩ : ∃ z0 z1 z2 z3, r.drop 21 = [z0, z1, z2, z3] := by
        match r.drop 21, h4 with
        | [z0, z1, z2, z3], _ => exact ⟨z0, z1, z2, z3, rfl⟩
      rw [hd] at g5
      obtain ⟨z, hzz⟩ := open_area g5
      simp only [adC, List.cons.injEq, and_true] at ea
      obtain ⟨rfl, rfl⟩ := ea
      have e2 : r.take 21 = (contV c p c.t.args.length cap).cells.toList := by rw [← e]; simp [Value.cells]
      refine ⟨⟨on, kind, nn, ⟨a, c, p, cap⟩, z⟩, ?_, ⟨b0, b2⟩, q2, n', q1⟩
      rw [← List.take_append_drop 21 r, hd, hzz, e2]
      rfl
theorem open_ops {n : Nat} {v : Value} {x : DataW H × List MemPlace} (h : DataW.trod enc Tryz.prog W base spare held n 22 [v] = some x) (hz : ∀ q ∈ x.1.weights Tryz.prog 22, q ≤ reachBytes) : ∃ l, OpsIn W v l := by
  obtain ⟨l, h1, h2⟩ := open_listW (p := fun o : OpT => (I64 o.on ∧ I64 o.n) ∧ o.x.c.ok ∧ ∃ n, ArgsIn W n (.slice o.x.p o.x.c.t.args.length o.x.cap) o.x.c.t.args) Tryz.underlying22 Tryz.cellsOp (by omega) (fun _ => rfl) (fun m cs y h hz => open_op h hz) h hz
  exact ⟨l, h1, h2⟩
end
set_option maxRecDepth 100000 in
set_option maxHeartbeats 2000000 in
theorem gridPlays_lifted (os : Os) (started : os.Started) (H : Type) (enc : TypeId × Value → H) :
    ReturnsInHanded {} Tryz.checked os 3 .any (fun w args => (Rows.gridPlaysSpec.pre enc Tryz.prog Tryz.f3 [] false w args ∧ laidMetH Tryz.prog laidL w) ∧ sizedMet enc Tryz.prog Tryz.f3 (OpenSpec.ofChange Rows.gridPlaysSpec) false w args)
      (Rows.gridPlaysSpec.post enc Tryz.prog Tryz.f3 false true false false) := by
  refine returnsInHanded_of_change_and (C := Tryz.checked) (X := fun w _ => laidMetH Tryz.prog laidL w) (fun _ _ _ hh h => h.of_heap hh) Tryz.own' started (by kernel_rfl) Tryz.func3
    (ChangeSpec.witness_at (enc := enc) (C := Tryz.checked) (os := os) (X := fun w _ => laidMetH Tryz.prog laidL w) false (laidWorld os) #[.slice none 0 0] 8 rfl (by kernel_rfl) (by kernel_rfl) (by kernel_rfl) (by kernel_rfl) (by kernel_rfl) (laid_metH os _)) ?_
  intro W base args ds gs before hval0 hW _ hZ hL _
  have hval : ∀ (j : Nat) t v, Tryz.f3.params[j]? = some t → args[j]? = some v → Value.okWide Tryz.prog W .any base t v := hval0
  have hW' := hW
  obtain ⟨p, q, hA0, hV, rfl, _, _⟩ := hW
  have hA : DataW.TrodAll enc Tryz.prog W 0 (fun _ => true) true Tryz.f3.params.toList args.toList ds p := hA0
  rw [Tryz.params3] at hA hval
  obtain ⟨v1, d1, rfl, rfl, h1⟩ := trodAll_one hA
  obtain ⟨rfl, rfl⟩ := trodVars_none hV
  have hz : ∀ q ∈ d1.weights Tryz.prog 22, q ≤ reachBytes := by
    intro q hq
    have := List.all_eq_true.1 hZ q (by
      rw [Tryz.params3]
      simp only [List.cons_append, List.nil_append, DataW.weightsEach, List.mem_append]
      first | exact Or.inl hq | exact hq)
    simpa using this
  obtain ⟨l, hl⟩ : ∃ l, OpsIn W v1 l := by
    obtain ⟨a0, n0, c0, rfl⟩ := okWide_slice Tryz.underlying22 (hval 0 22 v1 rfl rfl)
    obtain ⟨f, hf⟩ := h1
    exact open_ops (by simpa [Value.cells] using hf) hz
  have hT : Tabs W := tabs_of hL
  clear hA0 hval0 hval hA hz hZ
  simp only [List.append_nil] at hW'
  have hlt : ∀ x ∈ p, x.block < W.heap.size := fun x hx => by simpa using hW'.lt x (by simpa using hx)
  have harg1 : ∀ W', Xt W W' → DataW.Trod enc Tryz.prog W' 0 (fun b => decide (b < W.heap.size)) true 22 _ d1 p := fun W' hx =>
    Below.trod Tryz.laidOut' (by kernel_rfl) (of_decide_eq_true (by kernel_rfl)) h1 hx hlt
  refine (gridPlays_any l v1 W hT hl).mono fun e W' ⟨he, hx⟩ => ?_
  subst he
  exact ⟨_, rfl, _, _, _, [], _, [], hW', trodAll_mk1 (shut_bool Tryz.underlying4 _), trodAll_mk1 (harg1 W' hx), rfl, Below.frame hx _, fun h => by cases h⟩
theorem gridPlays_row : Rows.GridPlaysSaid :=
  OpenClaim.holds_of_wide 3 Tryz.f3 rfl rfl rfl rfl rfl rfl rfl ⟨rfl, rfl, rfl, rfl, rfl⟩ rfl rfl rfl rfl rfl (by kernel_rfl) Tryz.func3 (by kernel_rfl)
    (of_decide_eq_true (by kernel_rfl)) (by unfold Func.isWrapper; rw [if_neg (of_decide_eq_false (by kernel_rfl))]; exact ⟨rfl, rfl⟩)
    (fun os started H enc _ => gridPlays_lifted os started H enc)
theorem gridPlays_holds : Rows.GridPlaysCardSaid :=
  Claim7.holds_tied_plain_at .later [] [.data, .pinned] true _ true
    gridPlays_row (fun _ h => by cases h) (by kernel_rfl) (fun _ h => by cases h) gridPlays_row_tie rfl ⟨rfl, rfl⟩ (by kernel_rfl) rfl
    (fun f fn hf hfn => by
      obtain rfl : f = 3 := Option.some.inj ((show Tryz.prog.funcNamed "quadrille/quadrillelaw17.GridPlays" = some 3 by kernel_rfl).symm.trans hf) |>.symm
      obtain rfl : fn = Tryz.f3 := (Option.some.inj (Tryz.func3.symm.trans hfn)).symm
      exact ⟨by kernel_rfl, fun j t ht => by
        rw [Tryz.params3] at ht
        have h3 : t = 22 := by
          rcases j with _ | j
          · simpa using ht.symm
          · simp at ht
        subst h3
        exact (show Tryz.prog.wantsStandIn 22 = false by kernel_rfl)⟩)
    (by kernel_rfl)
#print axioms gridPlays_holds
end
end Go.Proofs.YtideclfpbpjebaaGreatDoor
