/- write: a formula whose references are shifted, in its own memory (made by mkt2.py). -/
import Derived.Test.YtdoeejhdenifpaaGreatDoorZ1
import Derived.Test.YtdoeejhdenifpaaGreatDoorA7
import Derived.Test.YtdoeejhdenifpaaGreatDoorM6
import Derived.Deep.Cut
namespace Go.Proofs.YtdoeejhdenifpaaGreatDoor
open Go.RowKit Go.Sort
theorem swap_rows {w : World} {P Q : Nat} {cp cq : Array Value} {T U : TypeId} (hP : w.heap[P]? = some (.cells cp T (0, 0))) (hQ : w.heap[Q]? = some (.cells cq U (0, 0))) (hne : P ≠ Q) (o : Nat) (u v : Value) :
    ((w.setCell ⟨P, o, none⟩ u).setCell ⟨Q, o, none⟩ v).heap[P]? = some (.cells (cp.setIfInBounds o u) T (0, 0)) ∧ ((w.setCell ⟨P, o, none⟩ u).setCell ⟨Q, o, none⟩ v).heap[Q]? = some (.cells (cq.setIfInBounds o v) U (0, 0)) :=
 ⟨(Below.heap_setCell _ _ _ _ (by simpa using hne)).trans (setCell_row hP o u), setCell_row ((Below.heap_setCell _ _ _ _ (by simpa using fun e => hne e.symm)).trans hQ) o v⟩
theorem cells_out8 {w : World} {b B : Nat} {v0 v1 v2 v3 : Value} {T : TypeId} (hne : b ≠ B) (h : w.heap[b]? = some (.cells #[v0, v1, v2, v3] T (0, 0))) (o : Nat) (u : Value) : (w.setCell ⟨B, o, none⟩ u).heap[b]? = some (.cells #[v0, v1, v2, v3] T (0, 0)) :=
 (Below.heap_setCell _ _ _ _ (by simpa using hne)).trans h
theorem hdr (V : World) : V.drew.heap = V.heap := rfl
def ShiftIs (cc rr : Int) (n : Nat) : Prop :=
 ∀ (S : Nat → Prop) (t : NodeT) (a : Option Addr) (cap : Nat) (w : World), (∀ b, S b → b < w.heap.size) → SepIn S w n (.slice a t.args.length cap) t.args →
 Calls Tryz.prog 145 #[nodeV t a t.args.length cap, .int .i64 cc, .int .i64 rr] w fun e w' =>
  ∃ a2 c2, e = .returned (nodeV (upT (shH cc rr) t) a2 (upT (shH cc rr) t).args.length c2) ∧ SepIn S w' n (.slice a2 (upT (shH cc rr) t).args.length c2) (upT (shH cc rr) t).args ∧ Wr S w w'
def Hi (B : Nat) : Nat → Prop := fun b => B ≤ b
theorem fin_hi {S : Nat → Prop} {w wr W : World} {n B : Nat} {av : Value} {L : List NodeT} (hA : SepIn S wr n av L) (hw : Wr S w wr) (hB : w.heap.size = B) (hn : ∀ b, S b → b < B) (k : Wr (Hi B) wr W) : SepIn S W n av L ∧ Wr S w W :=
 ⟨hA.keep (fun b hb hlt => k.block b hlt (fun e => by have := hn b hb; have : B ≤ b := e; omega)), hw.side k (fun c hc => by have : B ≤ c := hc; omega)⟩
theorem nodeRefs {w : World} {b : Nat} {u0 u1 u2 u3 u4 u5 u6 u7 u8 u9 u10 u11 u12 u13 u14 : Value} {T : TypeId} (h : w.heap[b]? = some (.cells #[u0, u1, u2, u3, u4, u5, u6, u7, u8, u9, u10, u11, u12, u13, u14] T (0, 0))) : (w.cell? ⟨b, 6, none⟩ = some u6 ∧ w.cell? ⟨b, 7, none⟩ = some u7 ∧ w.cell? ⟨b, 8, none⟩ = some u8 ∧ w.cell? ⟨b, 9, none⟩ = some u9 ∧ w.cell? ⟨b, 10, none⟩ = some u10 ∧ w.cell? ⟨b, 11, none⟩ = some u11 ∧ w.cell? ⟨b, 12, none⟩ = some u12 ∧ w.cell? ⟨b, 13, none⟩ = some u13) ∧
    (w.frozen? ⟨b, 6, none⟩ = false ∧ w.frozen? ⟨b, 7, none⟩ = false ∧ w.frozen? ⟨b, 8, none⟩ = false ∧ w.frozen? ⟨b, 9, none⟩ = false ∧ w.frozen? ⟨b, 10, none⟩ = false ∧ w.frozen? ⟨b, 11, none⟩ = false ∧ w.frozen? ⟨b, 12, none⟩ = false ∧ w.frozen? ⟨b, 13, none⟩ = false) := by
 refine ⟨⟨?_, ?_, ?_, ?_, ?_, ?_, ?_, ?_⟩, ?_, ?_, ?_, ?_, ?_, ?_, ?_, ?_⟩ <;> simp [World.cell?, World.frozen?, h]
set_option maxRecDepth 100000 in
set_option maxHeartbeats 2000000 in
theorem wshifted_any (cc rr : Int) : ∀ n, ShiftIs cc rr n := by
 intro n
 induction n using Nat.strongRecOn with
 | ind n ih =>
  intro S t a cap w hS hA
  have IH := Lib.hid ih
  have HS := Lib.hid hS
  obtain ⟨_, cap', he, hlc, hcm⟩ := hA.own.shape
  cases he
  obtain ⟨k, o, x, s, bb, f, ⟨⟨r1, r2⟩, rc, rf⟩, ⟨⟨q1, q2⟩, qc, qf⟩, l⟩ := t
  simp only [NodeT.args] at hA hlc
  obtain ⟨B, hB⟩ : ∃ B, w.heap.size = B := ⟨_, rfl⟩
  obtain ⟨w0, hw0⟩ : ∃ w0, w.alloc (.cells #[.int .i64 k, .int .i64 o, .float .f64 x, .string s, .bool bb, .int .i64 f, .int .i64 r1, .int .i64 r2, .bool rc, .bool rf, .int .i64 q1, .int .i64 q2, .bool qc, .bool qf, .slice a l.length cap] 49) = w0 := ⟨_, rfl⟩
  have hs0 : w0.heap.size = B + 1 := by rw [← hw0, ← hB]; simp
  obtain ⟨w1, hw1⟩ : ∃ w1, w0.alloc (.cells #[.int .i64 0, .int .i64 0, .float .f64 0, .string ⟨#[]⟩, .bool false, .int .i64 0, .int .i64 0, .int .i64 0, .bool false, .bool false, .int .i64 0, .int .i64 0, .bool false, .bool false, .slice none 0 0] 49) = w1 := ⟨_, rfl⟩
  have hs1 : w1.heap.size = B + 2 := by rw [← hw1]; simp [hs0]
  have hx1 : Xt w w1 := by rw [← hw1, ← hw0]; exact ((Xt.refl w).alloc _).alloc _
  have HRB : Hid (w1.heap[B]? = some (.cells #[.int .i64 k, .int .i64 o, .float .f64 x, .string s, .bool bb, .int .i64 f, .int .i64 r1, .int .i64 r2, .bool rc, .bool rf, .int .i64 q1, .int .i64 q2, .bool qc, .bool qf, .slice a l.length cap] 49 (0, 0))) := by
   unfold Hid; rw [← hw1]; exact (Below.heap_alloc w0 _ _ (by omega)).trans (by rw [← hw0, ← hB]; exact (MapKept.heap_alloc w _).1)
  have HRR : Hid (w1.heap[B + 1]? = some (.cells #[.int .i64 0, .int .i64 0, .float .f64 0, .string ⟨#[]⟩, .bool false, .int .i64 0, .int .i64 0, .int .i64 0, .bool false, .bool false, .int .i64 0, .int .i64 0, .bool false, .bool false, .slice none 0 0] 49 (0, 0))) := by
   unfold Hid; rw [← hw1, ← hs0]; exact (MapKept.heap_alloc w0 _).1
  have c14 : w1.cell? ⟨B, 14, none⟩ = some (.slice a l.length cap) := by have := HRB.out; simp [World.cell?, this]
  have HA1 : Hid (SepIn S w1 n (.slice a l.length cap) l) := Lib.hid (hA.keep (fun b hb hlt => hx1.block b hlt))
  have HW1 : Hid (Wr S w w1) := Lib.hid (Wr.of_xt hx1)
  have hnB : Hid (¬ S B ∧ ¬ S (B + 1)) := ⟨fun e => by have := hS _ e; omega, fun e => by have := hS _ e; omega⟩
  have HBw : Hid (w.heap.size = B) := hB
  clear hx1 hA hS ih
  change Calls Tryz.prog 145 #[.agg #[.int .i64 k, .int .i64 o, .float .f64 x, .string s, .bool bb, .int .i64 f, .int .i64 r1, .int .i64 r2, .bool rc, .bool rf, .int .i64 q1, .int .i64 q2, .bool qc, .bool qf, .slice a l.length cap], .int .i64 cc, .int .i64 rr] w _
  go_enter Tryz.func145, Tryz.ntmps145
  go_wp2_with fail
  clear hw0 hw1
  go_loopw [15] (fun s15 wr => ∃ i : Nat, i ≤ l.length ∧ s15 = .int .i64 i ∧ Hid (Wr S w1 wr) ∧ Hid (SepIn S wr n (.slice a l.length cap) ((l.take i).map (upT (shH cc rr)) ++ l.drop i))) (fun s15 _ => l.length - (intOf s15).toNat)
  case atStart => exact ⟨0, Nat.zero_le _, rfl, Wr.refl _ _, by simpa using HA1⟩
  case round =>
   clear HA1
   obtain ⟨i, hi, rfl, HW, HA⟩ := hrel
   have hszr := HW.out.size
   have hrow := (HW.out.block B (by omega) hnB.out.1).trans HRB.out
   have d14 : wr.cell? ⟨B, 14, none⟩ = some (.slice a l.length cap) := by simp [World.cell?, hrow]
   by_cases hlt : i < l.length
   · obtain ⟨u, hu⟩ : ∃ u, l[i]? = some u := ⟨l[i], by simp [hlt]⟩
     obtain ⟨hst1, hst2⟩ := turned_step (upT (shH cc rr)) hu
     obtain ⟨n', b, a', c', T, rfl, rfl, hb, hblt, hTS, hNu, hSu, hthere, hafter⟩ := HA.out.elem hst1
     have hki : (i : Int) < (l.length : Int) := by omega
     have HC := Lib.hid (IH.out n' (by omega) T u a' c' wr.drew (fun c hc => Nat.lt_of_lt_of_le (Nat.lt_of_lt_of_le (HS.out c (hTS c hc).1) (by omega)) hszr) (SepIn.keep (w := wr) (w' := wr.drew) (fun _ _ _ => rfl) hSu))
     have HHold : Hid (∀ W, Wr S wr W → W.cell? ⟨B, 14, none⟩ = some (.slice (some ⟨b, 0, none⟩) l.length cap)) := Lib.hid fun W hW =>
      (World.cell?_of_block (w := wr) (a := ⟨B, 14, none⟩) (hW.block B (by omega) hnB.out.1)).trans d14
     have HST2 := Lib.hid hst2
     have HAF := Lib.hid hafter
     have HTH := Lib.hid hthere
     clear hst1 hst2 hafter hthere hSu hu d14 hrow
     obtain ⟨e0, e1, e2, e3, e4, e5, e6, e7, e8, e9, e10, e11, e12, e13, e14⟩ := hNu
     go_wp2_with fail
     refine wp_region_held_drew (S := fun W => W.cell? ⟨B, 14, none⟩ = some (.slice (some ⟨b, 0, none⟩) l.length cap)) (by kernel_rfl) (HHold.out _ (Wr.of_xt (Xt.refl wr).drew)) (fun hHeld => ?_)
     refine tkH 0 ?_ ?_ ?_
     rotate_left
     · intro W hSw; (try dsimp only at hSw); go_simp; first | done | with_reducible rfl
     try simp only [Act.put, nm]
     refine tkH 1 ?_ ?_ ?_
     rotate_left
     · intro W hSw; (try dsimp only at hSw); go_simp; first | done | with_reducible rfl
     try simp only [Act.put, nm]
     refine tkH 2 ?_ ?_ ?_
     rotate_left
     · intro W hSw; (try dsimp only at hSw); go_simp; first | done | with_reducible rfl
     try simp only [Act.put, nm]
     refine tkH 3 ?_ ?_ ?_
     rotate_left
     · intro W hSw; (try dsimp only at hSw); go_simp; first | done | with_reducible rfl
     try simp only [Act.put, nm]
     refine tkH 4 ?_ ?_ ?_
     rotate_left
     · intro W hSw; (try dsimp only at hSw); go_simp; first | done | with_reducible rfl
     try simp only [Act.put, nm]
     refine tkH 5 ?_ ?_ ?_
     rotate_left
     · intro W hSw; (try dsimp only at hSw); go_simp; first | done | with_reducible rfl
     try simp only [Act.put, nm]
     refine tkH 6 ?_ ?_ ?_
     rotate_left
     · intro W hSw; (try dsimp only at hSw); go_simp; first | done | with_reducible rfl
     try simp only [Act.put, nm]
     refine tkH 8 ?_ ?_ ?_
     rotate_left
     · intro W hSw; (try dsimp only at hSw); go_simp; first | done | with_reducible rfl
     try simp only [Act.put, nm]
     refine tkH 9 ?_ ?_ ?_
     rotate_left
     · intro W hSw; (try dsimp only at hSw); go_simp; first | done | with_reducible rfl
     try simp only [Act.put, nm]
     refine rdH 7 (fun K hK => ?_)
     go_simp
     refine hK.out _ _ hHeld (fun hHeld1 => ?_)
     clear hK K
     try simp only [Act.put, nm]
     refine rdH 10 (fun K hK => ?_)
     go_simp
     refine (HC.out).mono ?_
     rintro e w6 ⟨a2, c2, rfl, hS6, hW6⟩
     have hW6r : Wr T wr w6 := (Wr.of_xt (Xt.refl wr).drew).trans hW6
     refine hK.out _ _ (HHold.out _ (hW6r.weak fun c hc => (hTS c hc).1)) (fun hHeld2 => ?_)
     clear hK K
     try simp only [Act.put, nm]
     refine tkH 11 ?_ ?_ ?_
     rotate_left
     · intro W hSw; (try dsimp only at hSw); go_simp; first | done | with_reducible rfl
     try simp only [Act.put, nm]
     refine rdH 12 (fun K hK => ?_)
     rw [if_pos (by rfl)]
     obtain ⟨hS7, hW7⟩ := HAF.out w6 (upT (shH cc rr) u) (.slice a2 (upT (shH cc rr) u).args.length c2) hW6r hS6
     refine wp_store_mid 49 _ _ rfl b (i * 15) (nodeC (upT (shH cc rr) u) (.slice a2 (upT (shH cc rr) u).args.length c2)).toArray rfl rfl (HTH.out _ hW6r) (by kernel_rfl) (all_oneCell_toArray (nodeC_one _ _ rfl)) ?_
     refine hK.out _ _ (HHold.out _ hW7) (fun hHeld3 => ?_)
     clear hK K
     refine wpAnyH_done (by kernel_rfl) ?_ _
     go_wp2_with fail
     go_roundw
     case rel => exact ⟨i + 1, by omega, by go_num, HW.out.trans hW7, by rw [← HST2.out]; exact hS7⟩
     case measure => simp [intOf]; omega
   · have he : i = l.length := by omega
     subst he
     have HA' : Hid (SepIn S wr n (.slice a l.length cap) (l.map (upT (shH cc rr)))) := by unfold Hid; have := HA.out; simpa using this
     have hrr := (HW.out.block (B + 1) (by omega) hnB.out.2).trans HRR.out
     have HWw := Lib.hid (HW1.out.trans HW.out)
     have HRBr := Lib.hid hrow
     have HRRr := Lib.hid hrr
     have d0 : wr.cell? ⟨B, 0, none⟩ = some (.int .i64 k) := by simp [World.cell?, hrow]
     clear HA hi hlt d14 hrow hrr
     have hsw : B + 2 ≤ wr.heap.size := by omega
     by_cases h56 : k = 5 ∨ k = 6
     · obtain ⟨hEA, hEB⟩ : (∀ W, Xt wr W → W.heap[B]? = some (.cells #[.int .i64 k, .int .i64 o, .float .f64 x, .string s, .bool bb, .int .i64 f, .int .i64 r1, .int .i64 r2, .bool rc, .bool rf, .int .i64 q1, .int .i64 q2, .bool qc, .bool qf, .slice a l.length cap] 49 (0, 0))) ∧ (∀ W, Xt wr W → W.heap[B + 1]? = some (.cells #[.int .i64 0, .int .i64 0, .float .f64 0, .string ⟨#[]⟩, .bool false, .int .i64 0, .int .i64 0, .int .i64 0, .bool false, .bool false, .int .i64 0, .int .i64 0, .bool false, .bool false, .slice none 0 0] 49 (0, 0))) := ⟨fun W hx => rowX hx HRBr.out, fun W hx => rowX hx HRRr.out⟩
       have HEA := Lib.hid hEA
       have HEB := Lib.hid hEB
       clear hEA hEB
       have HC1 := Lib.hid (fun V => ashift_any ⟨(r1, r2), rc, rf⟩ cc rr V)
       obtain ⟨zz, hzz⟩ : ∃ z, shR cc rr ⟨(r1, r2), rc, rf⟩ = z := ⟨_, rfl⟩
       obtain ⟨zo, hzo⟩ : ∃ z, shB cc rr ⟨(r1, r2), rc, rf⟩ = z := ⟨_, rfl⟩
       rw [hzz, hzo] at HC1
       obtain ⟨⟨z1, z2⟩, zc, zf⟩ := zz
       have HZZ := Lib.hid hzz
       have HZO := Lib.hid hzo
       clear hzz hzo
       have hm1 : True := trivial
       have hk56 : (k == 5) = true ∨ (k == 6) = true := by rcases h56 with e | e <;> simp [e]
       by_cases h5 : k = 5
       · have h5a : (k != 5) = false := by simp [h5]
         have h5c : (k == 5) = true := by simp [h5]
         have HK5 := Lib.hid h5
         clear h56 hk56 h5
         have d0 : wr.cell? ⟨B, 0, none⟩ = some (.int .i64 k) := by have := HEA.out _ (Xt.refl _); simp [World.cell?, this]
         go_upto_region 9 with fail
         obtain ⟨w2, hw2⟩ : ∃ w2, wr.alloc (.cells #[.int .i64 4, .int .i64 0, .float .f64 0, .string ⟨#[]⟩, .bool false, .int .i64 4, .int .i64 0, .int .i64 0, .bool false, .bool false, .int .i64 0, .int .i64 0, .bool false, .bool false, .slice none 0 0] 49) = w2 := ⟨_, rfl⟩
         rw [hw2]
         have HX2 : Hid (Xt wr w2) := by unfold Hid; rw [← hw2]; exact (Xt.refl _).alloc _
         have hEL : w2.heap[wr.heap.size]? = some (.cells (nodeC lostT (.slice none 0 0)).toArray 49 (0, 0)) := by rw [← hw2]; exact (MapKept.heap_alloc wr _).1
         have HEL : Hid (∀ W, Xt w2 W → W.heap[wr.heap.size]? = some (.cells (nodeC lostT (.slice none 0 0)).toArray 49 (0, 0))) := Lib.hid fun W hx => rowX hx hEL
         have d0 : w2.cell? ⟨B, 0, none⟩ = some (.int .i64 k) := by have := HEA.out _ HX2.out; simp [World.cell?, this]
         obtain ⟨⟨d6, d7, d8, d9, d10, d11, d12, d13⟩, g6, g7, g8, g9, g10, g11, g12, g13⟩ := nodeRefs (HEA.out _ HX2.out)
         clear hw2 hEL
         cases zo
         · go_wp2_with (first
            | (go_at_call 164; have hm0 := hm1; clear hm1 hm0; refine (HC1.out _).mono ?_; rintro e w3 ⟨rfl, hx3⟩; obtain ⟨w4, hw4⟩ : ∃ w4, w3.alloc (.cells #[.int .i64 z1, .int .i64 z2, .bool zc, .bool zf] 46) = w4 := ⟨_, rfl⟩; have HX34 : Hid (Xt w3 w4) := (by unfold Hid; rw [← hw4]; exact (Xt.refl _).alloc _); have HX24 : Hid (Xt w2 w4) := hx3.trans HX34.out; have HX4 : Hid (Xt wr w4) := HX2.out.trans HX24.out; have HRP : Hid (w4.heap[w3.heap.size]? = some (.cells #[.int .i64 z1, .int .i64 z2, .bool zc, .bool zf] 46 (0, 0))) := (by unfold Hid; rw [← hw4]; exact (MapKept.heap_alloc w3 _).1); have hsz3 : w2.heap.size ≤ w3.heap.size := hx3.size; obtain ⟨p0, p1, p2, p3, u0, u1, u2, u3⟩ := cells4R HRP.out; have d0 : w4.cell? ⟨B, 0, none⟩ = some (.int .i64 k) := (by have := HEA.out _ HX4.out; simp [World.cell?, this]); obtain ⟨⟨d6, d7, d8, d9, d10, d11, d12, d13⟩, g6, g7, g8, g9, g10, g11, g12, g13⟩ := nodeRefs (HEA.out _ HX4.out); clear hx3)
            | (refine wpList_load_row (P := Tryz.prog) rfl 49 _ rfl wr.heap.size rfl 49 _ (0, 0) _ (HEL.out _ HX24.out) Tryz.underlying49 rfl (by kernel_rfl) ?_)
            | (refine wpList_store_row (P := Tryz.prog) rfl 49 _ _ rfl (B + 1) _ rfl rfl 49 _ (HEB.out _ HX4.out) (by kernel_rfl) (by kernel_rfl) (all_oneCell_toArray (nodeC_one lostT (.slice none 0 0) rfl)) ?_))
           (try simp only [Exit.inBlock, Exit.then])
           refine bodyPost_ret (v := .agg (nodeC lostT (.slice none 0 0)).toArray) (results_cell_row rfl _ _ (B + 1) 49 _ (0, 0) _ rfl (setRow_heap _ _ _ _ _ _ (HEB.out _ HX4.out)) Tryz.underlying49 rfl (by kernel_rfl)) rfl ?_
           have hTT : upT (shH cc rr) (.mk k o x s bb f ⟨(r1, r2), rc, rf⟩ ⟨(q1, q2), qc, qf⟩ l) = lostT := by
            rw [upT, shH, if_pos HK5.out, HZO.out]; rfl
           rw [hTT]
           exact ⟨none, 0, rfl, SepIn.nil n, HWw.out.side ((Wr.of_xt HX4.out).trans (Wr.row _ (show B ≤ B + 1 by omega))) (S2 := Hi B) (fun c hc => by have := HBw.out; have : B ≤ c := hc; omega)⟩
         · go_upto_region 14 with (first
            | (go_at_call 164; have hm0 := hm1; clear hm1 hm0; refine (HC1.out _).mono ?_; rintro e w3 ⟨rfl, hx3⟩; obtain ⟨w4, hw4⟩ : ∃ w4, w3.alloc (.cells #[.int .i64 z1, .int .i64 z2, .bool zc, .bool zf] 46) = w4 := ⟨_, rfl⟩; have HX34 : Hid (Xt w3 w4) := (by unfold Hid; rw [← hw4]; exact (Xt.refl _).alloc _); have HX24 : Hid (Xt w2 w4) := hx3.trans HX34.out; have HX4 : Hid (Xt wr w4) := HX2.out.trans HX24.out; have HRP : Hid (w4.heap[w3.heap.size]? = some (.cells #[.int .i64 z1, .int .i64 z2, .bool zc, .bool zf] 46 (0, 0))) := (by unfold Hid; rw [← hw4]; exact (MapKept.heap_alloc w3 _).1); have hsz3 : w2.heap.size ≤ w3.heap.size := hx3.size; obtain ⟨p0, p1, p2, p3, u0, u1, u2, u3⟩ := cells4R HRP.out; have d0 : w4.cell? ⟨B, 0, none⟩ = some (.int .i64 k) := (by have := HEA.out _ HX4.out; simp [World.cell?, this]); obtain ⟨⟨d6, d7, d8, d9, d10, d11, d12, d13⟩, g6, g7, g8, g9, g10, g11, g12, g13⟩ := nodeRefs (HEA.out _ HX4.out); clear hx3))
           obtain ⟨w5, hw5⟩ : ∃ w5, ((((w4.setCell ⟨B, 6, none⟩ (.int .i64 z1)).setCell ⟨B, 7, none⟩ (.int .i64 z2)).setCell ⟨B, 8, none⟩ (.bool zc)).setCell ⟨B, 9, none⟩ (.bool zf)) = w5 := ⟨_, rfl⟩
           have HB5 : Hid (w5.heap[B]? = some (.cells (nodeC (.mk k o x s bb f ⟨(z1, z2), zc, zf⟩ ⟨(q1, q2), qc, qf⟩ l) (.slice a l.length cap)).toArray 49 (0, 0))) := by unfold Hid; rw [← hw5]; exact (setCell_row (setCell_row (setCell_row (setCell_row (HEA.out _ HX4.out) 6 _) 7 _) 8 _) 9 _)
           have HR5 : Hid (w5.heap[B + 1]? = some (.cells #[.int .i64 0, .int .i64 0, .float .f64 0, .string ⟨#[]⟩, .bool false, .int .i64 0, .int .i64 0, .int .i64 0, .bool false, .bool false, .int .i64 0, .int .i64 0, .bool false, .bool false, .slice none 0 0] 49 (0, 0))) := by unfold Hid; rw [← hw5]; exact ((Below.heap_setCell _ _ _ _ (by simp)).trans ((Below.heap_setCell _ _ _ _ (by simp)).trans ((Below.heap_setCell _ _ _ _ (by simp)).trans ((Below.heap_setCell _ _ _ _ (by simp)).trans (HEB.out _ HX4.out)))))
           have HW5 : Hid (Wr (Hi B) wr w5) := by unfold Hid; rw [← hw5]; exact (((((Wr.of_xt HX4.out).trans (Wr.cell _ (show B ≤ B by omega))).trans (Wr.cell _ (show B ≤ B by omega))).trans (Wr.cell _ (show B ≤ B by omega))).trans (Wr.cell _ (show B ≤ B by omega)))
           rw [hw5]
           clear hw5 d0 d6 d7 d8 d9 d10 d11 d12 d13 g6 g7 g8 g9 g10 g11 g12 g13 p0 p1 p2 p3 u0 u1 u2 u3
           go_wp2_with (first
            | (refine wpList_load_row (P := Tryz.prog) rfl 49 _ rfl B rfl 49 _ (0, 0) _ HB5.out Tryz.underlying49 rfl (by kernel_rfl) ?_)
            | (refine wpList_store_row (P := Tryz.prog) rfl 49 _ _ rfl (B + 1) _ rfl rfl 49 _ HR5.out (by kernel_rfl) (by kernel_rfl) (all_oneCell_toArray (nodeC_one (.mk k o x s bb f ⟨(z1, z2), zc, zf⟩ ⟨(q1, q2), qc, qf⟩ l) (.slice a l.length cap) rfl)) ?_))
           (try simp only [Exit.inBlock, Exit.then])
           refine bodyPost_ret (v := .agg (nodeC (.mk k o x s bb f ⟨(z1, z2), zc, zf⟩ ⟨(q1, q2), qc, qf⟩ l) (.slice a l.length cap)).toArray) (results_cell_row rfl _ _ (B + 1) 49 _ (0, 0) _ rfl (setRow_heap _ _ _ _ _ _ HR5.out) Tryz.underlying49 rfl (by kernel_rfl)) rfl ?_
           have hTT : upT (shH cc rr) (.mk k o x s bb f ⟨(r1, r2), rc, rf⟩ ⟨(q1, q2), qc, qf⟩ l) = .mk k o x s bb f ⟨(z1, z2), zc, zf⟩ ⟨(q1, q2), qc, qf⟩ (l.map (upT (shH cc rr))) := by
            rw [upT, upL_map, shH, if_pos HK5.out, HZO.out, if_pos rfl, HZZ.out]
           rw [hTT]
           obtain ⟨f1, f2⟩ := fin_hi (W := w5.setRow (B + 1) (nodeC (.mk k o x s bb f ⟨(z1, z2), zc, zf⟩ ⟨(q1, q2), qc, qf⟩ l) (.slice a l.length cap)).toArray) HA'.out HWw.out HBw.out (fun b hb => by have := HS.out b hb; have := HBw.out; omega) (HW5.out.trans (Wr.row _ (show B ≤ B + 1 by omega)))
           refine ⟨a, cap, ?_, ?_, f2⟩
           · simp [nodeC, NodeT.args, NodeT.kind, NodeT.op, NodeT.x, NodeT.s, NodeT.b, NodeT.f, NodeT.ref, NodeT.to]
           · simp only [NodeT.args, List.length_map]; exact f1
       · have h6 : k = 6 := by rcases h56 with e | e; exact absurd e h5; exact e
         have h5a : (k != 5) = true := by simpa using h5
         have h5c : (k == 5) = false := by simpa using h5
         have h6a : (k != 6) = false := by simp [h6]
         have HK5 := Lib.hid h6
         clear h56 hk56 h5 h6
         have d0 : wr.cell? ⟨B, 0, none⟩ = some (.int .i64 k) := by have := HEA.out _ (Xt.refl _); simp [World.cell?, this]
         go_upto_region 9 with fail
         obtain ⟨w2, hw2⟩ : ∃ w2, wr.alloc (.cells #[.int .i64 4, .int .i64 0, .float .f64 0, .string ⟨#[]⟩, .bool false, .int .i64 4, .int .i64 0, .int .i64 0, .bool false, .bool false, .int .i64 0, .int .i64 0, .bool false, .bool false, .slice none 0 0] 49) = w2 := ⟨_, rfl⟩
         rw [hw2]
         have HX2 : Hid (Xt wr w2) := by unfold Hid; rw [← hw2]; exact (Xt.refl _).alloc _
         have hEL : w2.heap[wr.heap.size]? = some (.cells (nodeC lostT (.slice none 0 0)).toArray 49 (0, 0)) := by rw [← hw2]; exact (MapKept.heap_alloc wr _).1
         have HEL : Hid (∀ W, Xt w2 W → W.heap[wr.heap.size]? = some (.cells (nodeC lostT (.slice none 0 0)).toArray 49 (0, 0))) := Lib.hid fun W hx => rowX hx hEL
         have d0 : w2.cell? ⟨B, 0, none⟩ = some (.int .i64 k) := by have := HEA.out _ HX2.out; simp [World.cell?, this]
         obtain ⟨⟨d6, d7, d8, d9, d10, d11, d12, d13⟩, g6, g7, g8, g9, g10, g11, g12, g13⟩ := nodeRefs (HEA.out _ HX2.out)
         clear hw2 hEL
         cases zo
         · go_wp2_with (first
            | (go_at_call 164; have hm0 := hm1; clear hm1 hm0; refine (HC1.out _).mono ?_; rintro e w3 ⟨rfl, hx3⟩; obtain ⟨w4, hw4⟩ : ∃ w4, w3.alloc (.cells #[.int .i64 z1, .int .i64 z2, .bool zc, .bool zf] 46) = w4 := ⟨_, rfl⟩; have HX34 : Hid (Xt w3 w4) := (by unfold Hid; rw [← hw4]; exact (Xt.refl _).alloc _); have HX24 : Hid (Xt w2 w4) := hx3.trans HX34.out; have HX4 : Hid (Xt wr w4) := HX2.out.trans HX24.out; have HRP : Hid (w4.heap[w3.heap.size]? = some (.cells #[.int .i64 z1, .int .i64 z2, .bool zc, .bool zf] 46 (0, 0))) := (by unfold Hid; rw [← hw4]; exact (MapKept.heap_alloc w3 _).1); have hsz3 : w2.heap.size ≤ w3.heap.size := hx3.size; obtain ⟨p0, p1, p2, p3, u0, u1, u2, u3⟩ := cells4R HRP.out; have d0 : w4.cell? ⟨B, 0, none⟩ = some (.int .i64 k) := (by have := HEA.out _ HX4.out; simp [World.cell?, this]); obtain ⟨⟨d6, d7, d8, d9, d10, d11, d12, d13⟩, g6, g7, g8, g9, g10, g11, g12, g13⟩ := nodeRefs (HEA.out _ HX4.out); clear hx3)
            | (refine wpList_load_row (P := Tryz.prog) rfl 49 _ rfl wr.heap.size rfl 49 _ (0, 0) _ (HEL.out _ HX24.out) Tryz.underlying49 rfl (by kernel_rfl) ?_)
            | (refine wpList_store_row (P := Tryz.prog) rfl 49 _ _ rfl (B + 1) _ rfl rfl 49 _ (HEB.out _ HX4.out) (by kernel_rfl) (by kernel_rfl) (all_oneCell_toArray (nodeC_one lostT (.slice none 0 0) rfl)) ?_))
           (try simp only [Exit.inBlock, Exit.then])
           refine bodyPost_ret (v := .agg (nodeC lostT (.slice none 0 0)).toArray) (results_cell_row rfl _ _ (B + 1) 49 _ (0, 0) _ rfl (setRow_heap _ _ _ _ _ _ (HEB.out _ HX4.out)) Tryz.underlying49 rfl (by kernel_rfl)) rfl ?_
           have hTT : upT (shH cc rr) (.mk k o x s bb f ⟨(r1, r2), rc, rf⟩ ⟨(q1, q2), qc, qf⟩ l) = lostT := by
            rw [upT, shH, if_neg (by rw [HK5.out]; decide), if_pos HK5.out, HZO.out]; rfl
           rw [hTT]
           exact ⟨none, 0, rfl, SepIn.nil n, HWw.out.side ((Wr.of_xt HX4.out).trans (Wr.row _ (show B ≤ B + 1 by omega))) (S2 := Hi B) (fun c hc => by have := HBw.out; have : B ≤ c := hc; omega)⟩
         · have HC2 := Lib.hid (fun V => ashift_any ⟨(q1, q2), qc, qf⟩ cc rr V)
           obtain ⟨vv, hvv⟩ : ∃ z, shR cc rr ⟨(q1, q2), qc, qf⟩ = z := ⟨_, rfl⟩
           obtain ⟨vo, hvo⟩ : ∃ z, shB cc rr ⟨(q1, q2), qc, qf⟩ = z := ⟨_, rfl⟩
           rw [hvv, hvo] at HC2
           obtain ⟨⟨v1, v2⟩, vc, vf⟩ := vv
           have HVV := Lib.hid hvv
           have HVO := Lib.hid hvo
           clear hvv hvo
           cases vo
           · go_wp2_with (first
              | (go_at_call 164; have hm0 := hm1; clear hm1 hm0; refine (HC1.out _).mono ?_; rintro e w3 ⟨rfl, hx3⟩; obtain ⟨w4, hw4⟩ : ∃ w4, w3.alloc (.cells #[.int .i64 z1, .int .i64 z2, .bool zc, .bool zf] 46) = w4 := ⟨_, rfl⟩; have HX34 : Hid (Xt w3 w4) := (by unfold Hid; rw [← hw4]; exact (Xt.refl _).alloc _); have HX24 : Hid (Xt w2 w4) := hx3.trans HX34.out; have HX4 : Hid (Xt wr w4) := HX2.out.trans HX24.out; have HRP : Hid (w4.heap[w3.heap.size]? = some (.cells #[.int .i64 z1, .int .i64 z2, .bool zc, .bool zf] 46 (0, 0))) := (by unfold Hid; rw [← hw4]; exact (MapKept.heap_alloc w3 _).1); have hsz3 : w2.heap.size ≤ w3.heap.size := hx3.size; obtain ⟨p0, p1, p2, p3, u0, u1, u2, u3⟩ := cells4R HRP.out; have d0 : w4.cell? ⟨B, 0, none⟩ = some (.int .i64 k) := (by have := HEA.out _ HX4.out; simp [World.cell?, this]); obtain ⟨⟨d6, d7, d8, d9, d10, d11, d12, d13⟩, g6, g7, g8, g9, g10, g11, g12, g13⟩ := nodeRefs (HEA.out _ HX4.out); clear hx3)
              | (go_at_call 164; refine (HC2.out _).mono ?_; rintro e w5 ⟨rfl, hx5⟩; obtain ⟨w6, hw6⟩ : ∃ w6, w5.alloc (.cells #[.int .i64 v1, .int .i64 v2, .bool vc, .bool vf] 46) = w6 := ⟨_, rfl⟩; have HX46 : Hid (Xt w4 w6) := (by unfold Hid; rw [← hw6]; exact hx5.alloc _); have HX26 : Hid (Xt w2 w6) := HX24.out.trans HX46.out; have HX6 : Hid (Xt wr w6) := HX4.out.trans HX46.out; have HRQ : Hid (w6.heap[w5.heap.size]? = some (.cells #[.int .i64 v1, .int .i64 v2, .bool vc, .bool vf] 46 (0, 0))) := (by unfold Hid; rw [← hw6]; exact (MapKept.heap_alloc w5 _).1); replace HRP := Lib.hid (rowX HX46.out HRP.out); have hsz5 : w3.heap.size + 1 ≤ w5.heap.size := (by have h1 := hx5.size; have h2 : w4.heap.size = w3.heap.size + 1 := (by rw [← hw4]; simp); omega); obtain ⟨p0, p1, p2, p3, u0, u1, u2, u3⟩ := cells4R HRP.out; obtain ⟨n0, n1, n2, n3, o0, o1, o2, o3⟩ := cells4R HRQ.out; clear hx5)
              | (refine wpList_load_row (P := Tryz.prog) rfl 49 _ rfl wr.heap.size rfl 49 _ (0, 0) _ (HEL.out _ HX26.out) Tryz.underlying49 rfl (by kernel_rfl) ?_)
              | (refine wpList_store_row (P := Tryz.prog) rfl 49 _ _ rfl (B + 1) _ rfl rfl 49 _ (HEB.out _ HX6.out) (by kernel_rfl) (by kernel_rfl) (all_oneCell_toArray (nodeC_one lostT (.slice none 0 0) rfl)) ?_))
             (try simp only [Exit.inBlock, Exit.then])
             refine bodyPost_ret (v := .agg (nodeC lostT (.slice none 0 0)).toArray) (results_cell_row rfl _ _ (B + 1) 49 _ (0, 0) _ rfl (setRow_heap _ _ _ _ _ _ (HEB.out _ HX6.out)) Tryz.underlying49 rfl (by kernel_rfl)) rfl ?_
             have hTT : upT (shH cc rr) (.mk k o x s bb f ⟨(r1, r2), rc, rf⟩ ⟨(q1, q2), qc, qf⟩ l) = lostT := by
              rw [upT, shH, if_neg (by rw [HK5.out]; decide), if_pos HK5.out, HZO.out, if_pos rfl, HVO.out]; rfl
             rw [hTT]
             exact ⟨none, 0, rfl, SepIn.nil n, HWw.out.side ((Wr.of_xt HX6.out).trans (Wr.row _ (show B ≤ B + 1 by omega))) (S2 := Hi B) (fun c hc => by have := HBw.out; have : B ≤ c := hc; omega)⟩
           · go_upto_region 18 with (first
              | (go_at_call 164; have hm0 := hm1; clear hm1 hm0; refine (HC1.out _).mono ?_; rintro e w3 ⟨rfl, hx3⟩; obtain ⟨w4, hw4⟩ : ∃ w4, w3.alloc (.cells #[.int .i64 z1, .int .i64 z2, .bool zc, .bool zf] 46) = w4 := ⟨_, rfl⟩; have HX34 : Hid (Xt w3 w4) := (by unfold Hid; rw [← hw4]; exact (Xt.refl _).alloc _); have HX24 : Hid (Xt w2 w4) := hx3.trans HX34.out; have HX4 : Hid (Xt wr w4) := HX2.out.trans HX24.out; have HRP : Hid (w4.heap[w3.heap.size]? = some (.cells #[.int .i64 z1, .int .i64 z2, .bool zc, .bool zf] 46 (0, 0))) := (by unfold Hid; rw [← hw4]; exact (MapKept.heap_alloc w3 _).1); have hsz3 : w2.heap.size ≤ w3.heap.size := hx3.size; obtain ⟨p0, p1, p2, p3, u0, u1, u2, u3⟩ := cells4R HRP.out; have d0 : w4.cell? ⟨B, 0, none⟩ = some (.int .i64 k) := (by have := HEA.out _ HX4.out; simp [World.cell?, this]); obtain ⟨⟨d6, d7, d8, d9, d10, d11, d12, d13⟩, g6, g7, g8, g9, g10, g11, g12, g13⟩ := nodeRefs (HEA.out _ HX4.out); clear hx3)
              | (go_at_call 164; refine (HC2.out _).mono ?_; rintro e w5 ⟨rfl, hx5⟩; obtain ⟨w6, hw6⟩ : ∃ w6, w5.alloc (.cells #[.int .i64 v1, .int .i64 v2, .bool vc, .bool vf] 46) = w6 := ⟨_, rfl⟩; have HX46 : Hid (Xt w4 w6) := (by unfold Hid; rw [← hw6]; exact hx5.alloc _); have HX26 : Hid (Xt w2 w6) := HX24.out.trans HX46.out; have HX6 : Hid (Xt wr w6) := HX4.out.trans HX46.out; have HRQ : Hid (w6.heap[w5.heap.size]? = some (.cells #[.int .i64 v1, .int .i64 v2, .bool vc, .bool vf] 46 (0, 0))) := (by unfold Hid; rw [← hw6]; exact (MapKept.heap_alloc w5 _).1); replace HRP := Lib.hid (rowX HX46.out HRP.out); have hsz5 : w3.heap.size + 1 ≤ w5.heap.size := (by have h1 := hx5.size; have h2 : w4.heap.size = w3.heap.size + 1 := (by rw [← hw4]; simp); omega); obtain ⟨p0, p1, p2, p3, u0, u1, u2, u3⟩ := cells4R HRP.out; obtain ⟨n0, n1, n2, n3, o0, o1, o2, o3⟩ := cells4R HRQ.out; clear hx5))
             obtain ⟨P, hP⟩ : ∃ P, w3.heap.size = P := ⟨_, rfl⟩
             obtain ⟨Q, hQ⟩ : ∃ Q, w5.heap.size = Q := ⟨_, rfl⟩
             rw [hP] at HRP p0 p1 p2 p3 u0 u1 u2 u3 hsz5 hsz3
             rw [hQ] at HRQ n0 n1 n2 n3 o0 o1 o2 o3 hsz5
             simp only [hP, hQ]
             have hPQ : P ≠ Q := by omega
             have hQP : Q ≠ P := by omega
             have hsB : B + 2 ≤ P := by have := HX2.out.size; omega
             clear hP hQ hw4 hw6
             by_cases hcol : v1 < z1
             · by_cases hrow : v2 < z2
               · go_wp2_with fail
                 obtain ⟨wq, hwq⟩ : ∃ wq, ((((((((w6.setCell ⟨P, 0, none⟩ (.int .i64 v1)).setCell ⟨Q, 0, none⟩ (.int .i64 z1)).setCell ⟨P, 2, none⟩ (.bool vc)).setCell ⟨Q, 2, none⟩ (.bool zc)).setCell ⟨P, 1, none⟩ (.int .i64 v2)).setCell ⟨Q, 1, none⟩ (.int .i64 z2)).setCell ⟨P, 3, none⟩ (.bool vf)).setCell ⟨Q, 3, none⟩ (.bool zf)) = wq := ⟨_, rfl⟩
                 have HP7 : Hid (wq.heap[P]? = some (.cells #[.int .i64 v1, .int .i64 v2, .bool vc, .bool vf] 46 (0, 0))) := by unfold Hid; rw [← hwq]; exact (swap_rows (swap_rows (swap_rows (swap_rows (⟨HRP.out, HRQ.out⟩ : _ ∧ _).1 (⟨HRP.out, HRQ.out⟩ : _ ∧ _).2 hPQ 0 (.int .i64 v1) (.int .i64 z1)).1 (swap_rows (⟨HRP.out, HRQ.out⟩ : _ ∧ _).1 (⟨HRP.out, HRQ.out⟩ : _ ∧ _).2 hPQ 0 (.int .i64 v1) (.int .i64 z1)).2 hPQ 2 (.bool vc) (.bool zc)).1 (swap_rows (swap_rows (⟨HRP.out, HRQ.out⟩ : _ ∧ _).1 (⟨HRP.out, HRQ.out⟩ : _ ∧ _).2 hPQ 0 (.int .i64 v1) (.int .i64 z1)).1 (swap_rows (⟨HRP.out, HRQ.out⟩ : _ ∧ _).1 (⟨HRP.out, HRQ.out⟩ : _ ∧ _).2 hPQ 0 (.int .i64 v1) (.int .i64 z1)).2 hPQ 2 (.bool vc) (.bool zc)).2 hPQ 1 (.int .i64 v2) (.int .i64 z2)).1 (swap_rows (swap_rows (swap_rows (⟨HRP.out, HRQ.out⟩ : _ ∧ _).1 (⟨HRP.out, HRQ.out⟩ : _ ∧ _).2 hPQ 0 (.int .i64 v1) (.int .i64 z1)).1 (swap_rows (⟨HRP.out, HRQ.out⟩ : _ ∧ _).1 (⟨HRP.out, HRQ.out⟩ : _ ∧ _).2 hPQ 0 (.int .i64 v1) (.int .i64 z1)).2 hPQ 2 (.bool vc) (.bool zc)).1 (swap_rows (swap_rows (⟨HRP.out, HRQ.out⟩ : _ ∧ _).1 (⟨HRP.out, HRQ.out⟩ : _ ∧ _).2 hPQ 0 (.int .i64 v1) (.int .i64 z1)).1 (swap_rows (⟨HRP.out, HRQ.out⟩ : _ ∧ _).1 (⟨HRP.out, HRQ.out⟩ : _ ∧ _).2 hPQ 0 (.int .i64 v1) (.int .i64 z1)).2 hPQ 2 (.bool vc) (.bool zc)).2 hPQ 1 (.int .i64 v2) (.int .i64 z2)).2 hPQ 3 (.bool vf) (.bool zf)).1
                 have HQ7 : Hid (wq.heap[Q]? = some (.cells #[.int .i64 z1, .int .i64 z2, .bool zc, .bool zf] 46 (0, 0))) := by unfold Hid; rw [← hwq]; exact (swap_rows (swap_rows (swap_rows (swap_rows (⟨HRP.out, HRQ.out⟩ : _ ∧ _).1 (⟨HRP.out, HRQ.out⟩ : _ ∧ _).2 hPQ 0 (.int .i64 v1) (.int .i64 z1)).1 (swap_rows (⟨HRP.out, HRQ.out⟩ : _ ∧ _).1 (⟨HRP.out, HRQ.out⟩ : _ ∧ _).2 hPQ 0 (.int .i64 v1) (.int .i64 z1)).2 hPQ 2 (.bool vc) (.bool zc)).1 (swap_rows (swap_rows (⟨HRP.out, HRQ.out⟩ : _ ∧ _).1 (⟨HRP.out, HRQ.out⟩ : _ ∧ _).2 hPQ 0 (.int .i64 v1) (.int .i64 z1)).1 (swap_rows (⟨HRP.out, HRQ.out⟩ : _ ∧ _).1 (⟨HRP.out, HRQ.out⟩ : _ ∧ _).2 hPQ 0 (.int .i64 v1) (.int .i64 z1)).2 hPQ 2 (.bool vc) (.bool zc)).2 hPQ 1 (.int .i64 v2) (.int .i64 z2)).1 (swap_rows (swap_rows (swap_rows (⟨HRP.out, HRQ.out⟩ : _ ∧ _).1 (⟨HRP.out, HRQ.out⟩ : _ ∧ _).2 hPQ 0 (.int .i64 v1) (.int .i64 z1)).1 (swap_rows (⟨HRP.out, HRQ.out⟩ : _ ∧ _).1 (⟨HRP.out, HRQ.out⟩ : _ ∧ _).2 hPQ 0 (.int .i64 v1) (.int .i64 z1)).2 hPQ 2 (.bool vc) (.bool zc)).1 (swap_rows (swap_rows (⟨HRP.out, HRQ.out⟩ : _ ∧ _).1 (⟨HRP.out, HRQ.out⟩ : _ ∧ _).2 hPQ 0 (.int .i64 v1) (.int .i64 z1)).1 (swap_rows (⟨HRP.out, HRQ.out⟩ : _ ∧ _).1 (⟨HRP.out, HRQ.out⟩ : _ ∧ _).2 hPQ 0 (.int .i64 v1) (.int .i64 z1)).2 hPQ 2 (.bool vc) (.bool zc)).2 hPQ 1 (.int .i64 v2) (.int .i64 z2)).2 hPQ 3 (.bool vf) (.bool zf)).2
                 have HB7 : Hid (wq.heap[B]? = some (.cells #[.int .i64 k, .int .i64 o, .float .f64 x, .string s, .bool bb, .int .i64 f, .int .i64 r1, .int .i64 r2, .bool rc, .bool rf, .int .i64 q1, .int .i64 q2, .bool qc, .bool qf, .slice a l.length cap] 49 (0, 0))) := by unfold Hid; rw [← hwq]; exact ((Below.heap_setCell _ _ _ _ (fun e => by simp at e; omega)).trans ((Below.heap_setCell _ _ _ _ (fun e => by simp at e; omega)).trans ((Below.heap_setCell _ _ _ _ (fun e => by simp at e; omega)).trans ((Below.heap_setCell _ _ _ _ (fun e => by simp at e; omega)).trans ((Below.heap_setCell _ _ _ _ (fun e => by simp at e; omega)).trans ((Below.heap_setCell _ _ _ _ (fun e => by simp at e; omega)).trans ((Below.heap_setCell _ _ _ _ (fun e => by simp at e; omega)).trans ((Below.heap_setCell _ _ _ _ (fun e => by simp at e; omega)).trans (HEA.out _ HX6.out)))))))))
                 have HB8 : Hid (wq.heap[B + 1]? = some (.cells #[.int .i64 0, .int .i64 0, .float .f64 0, .string ⟨#[]⟩, .bool false, .int .i64 0, .int .i64 0, .int .i64 0, .bool false, .bool false, .int .i64 0, .int .i64 0, .bool false, .bool false, .slice none 0 0] 49 (0, 0))) := by unfold Hid; rw [← hwq]; exact ((Below.heap_setCell _ _ _ _ (fun e => by simp at e; omega)).trans ((Below.heap_setCell _ _ _ _ (fun e => by simp at e; omega)).trans ((Below.heap_setCell _ _ _ _ (fun e => by simp at e; omega)).trans ((Below.heap_setCell _ _ _ _ (fun e => by simp at e; omega)).trans ((Below.heap_setCell _ _ _ _ (fun e => by simp at e; omega)).trans ((Below.heap_setCell _ _ _ _ (fun e => by simp at e; omega)).trans ((Below.heap_setCell _ _ _ _ (fun e => by simp at e; omega)).trans ((Below.heap_setCell _ _ _ _ (fun e => by simp at e; omega)).trans (HEB.out _ HX6.out)))))))))
                 have HW7 : Hid (Wr (Hi B) wr wq) := by unfold Hid; rw [← hwq]; exact (((((((((Wr.of_xt HX6.out).trans (Wr.cell _ (show B ≤ P by omega))).trans (Wr.cell _ (show B ≤ Q by omega))).trans (Wr.cell _ (show B ≤ P by omega))).trans (Wr.cell _ (show B ≤ Q by omega))).trans (Wr.cell _ (show B ≤ P by omega))).trans (Wr.cell _ (show B ≤ Q by omega))).trans (Wr.cell _ (show B ≤ P by omega))).trans (Wr.cell _ (show B ≤ Q by omega)))
                 rw [hwq]
                 clear hwq d0 d6 d7 d8 d9 d10 d11 d12 d13 g6 g7 g8 g9 g10 g11 g12 g13 p0 p1 p2 p3 u0 u1 u2 u3 n0 n1 n2 n3 o0 o1 o2 o3
                 obtain ⟨⟨d6, d7, d8, d9, d10, d11, d12, d13⟩, g6, g7, g8, g9, g10, g11, g12, g13⟩ := nodeRefs HB7.out
                 refine wp_region_held_drew (S := fun V => V.heap[P]? = some (.cells #[.int .i64 v1, .int .i64 v2, .bool vc, .bool vf] 46 (0, 0)) ∧ V.heap[Q]? = some (.cells #[.int .i64 z1, .int .i64 z2, .bool zc, .bool zf] 46 (0, 0))) (by kernel_rfl) ⟨HP7.out, HQ7.out⟩ (fun hHeld => ?_)
                 refine tkH 0 ?_ ?_ ?_
                 rotate_left
                 · intro V hSw; obtain ⟨p0, p1, p2, p3, _⟩ := cells4R hSw.1; obtain ⟨n0, n1, n2, n3, _⟩ := cells4R hSw.2; go_simp; first | done | with_reducible rfl
                 try simp only [Act.put, nm]
                 refine tkH 1 ?_ ?_ ?_
                 rotate_left
                 · intro V hSw; obtain ⟨p0, p1, p2, p3, _⟩ := cells4R hSw.1; obtain ⟨n0, n1, n2, n3, _⟩ := cells4R hSw.2; go_simp; first | done | with_reducible rfl
                 try simp only [Act.put, nm]
                 refine tkH 2 ?_ ?_ ?_
                 rotate_left
                 · intro V hSw; obtain ⟨p0, p1, p2, p3, _⟩ := cells4R hSw.1; obtain ⟨n0, n1, n2, n3, _⟩ := cells4R hSw.2; go_simp; first | done | with_reducible rfl
                 try simp only [Act.put, nm]
                 refine rdH 3 (fun K hK => ?_)
                 go_simp
                 refine hK.out _ _ ?_ (fun hHeld3 => ?_)
                 · rw [hdr]
                   exact ⟨(cells_out8 (by omega) (cells_out8 (by omega) (cells_out8 (by omega) (cells_out8 (by omega) HP7.out _ _) _ _) _ _) _ _), (cells_out8 (by omega) (cells_out8 (by omega) (cells_out8 (by omega) (cells_out8 (by omega) HQ7.out _ _) _ _) _ _) _ _)⟩
                 clear hK K
                 try simp only [Act.put, nm]
                 refine tkH 4 ?_ ?_ ?_
                 rotate_left
                 · intro V hSw; obtain ⟨p0, p1, p2, p3, _⟩ := cells4R hSw.1; obtain ⟨n0, n1, n2, n3, _⟩ := cells4R hSw.2; go_simp; first | done | with_reducible rfl
                 try simp only [Act.put, nm]
                 refine rdH 5 (fun K hK => ?_)
                 go_simp
                 refine hK.out _ _ ?_ (fun hHeld5 => ?_)
                 · rw [hdr]
                   exact ⟨(cells_out8 (by omega) (cells_out8 (by omega) (cells_out8 (by omega) (cells_out8 (by omega) (cells_out8 (by omega) (cells_out8 (by omega) (cells_out8 (by omega) (cells_out8 (by omega) HP7.out _ _) _ _) _ _) _ _) _ _) _ _) _ _) _ _), (cells_out8 (by omega) (cells_out8 (by omega) (cells_out8 (by omega) (cells_out8 (by omega) (cells_out8 (by omega) (cells_out8 (by omega) (cells_out8 (by omega) (cells_out8 (by omega) HQ7.out _ _) _ _) _ _) _ _) _ _) _ _) _ _) _ _)⟩
                 clear hK K
                 try simp only [Act.put, nm]
                 refine wpAnyH_done (by kernel_rfl) ?_ _
                 obtain ⟨w9, hw9⟩ : ∃ w9, (((((((((wq.setCell ⟨B, 6, none⟩ (.int .i64 v1)).setCell ⟨B, 7, none⟩ (.int .i64 v2)).setCell ⟨B, 8, none⟩ (.bool vc)).setCell ⟨B, 9, none⟩ (.bool vf)).setCell ⟨B, 10, none⟩ (.int .i64 z1)).setCell ⟨B, 11, none⟩ (.int .i64 z2)).setCell ⟨B, 12, none⟩ (.bool zc)).setCell ⟨B, 13, none⟩ (.bool zf))).drew = w9 := ⟨_, rfl⟩
                 have e0 := setCell_row HB7.out 6 (.int .i64 v1)
                 simp only [List.setIfInBounds_toArray, List.set_cons_zero, List.set_cons_succ] at e0
                 have e1 := setCell_row e0 7 (.int .i64 v2)
                 simp only [List.setIfInBounds_toArray, List.set_cons_zero, List.set_cons_succ] at e1
                 have e2 := setCell_row e1 8 (.bool vc)
                 simp only [List.setIfInBounds_toArray, List.set_cons_zero, List.set_cons_succ] at e2
                 have e3 := setCell_row e2 9 (.bool vf)
                 simp only [List.setIfInBounds_toArray, List.set_cons_zero, List.set_cons_succ] at e3
                 have e4 := setCell_row e3 10 (.int .i64 z1)
                 simp only [List.setIfInBounds_toArray, List.set_cons_zero, List.set_cons_succ] at e4
                 have e5 := setCell_row e4 11 (.int .i64 z2)
                 simp only [List.setIfInBounds_toArray, List.set_cons_zero, List.set_cons_succ] at e5
                 have e6 := setCell_row e5 12 (.bool zc)
                 simp only [List.setIfInBounds_toArray, List.set_cons_zero, List.set_cons_succ] at e6
                 have e7 := setCell_row e6 13 (.bool zf)
                 simp only [List.setIfInBounds_toArray, List.set_cons_zero, List.set_cons_succ] at e7
                 have HB9 : Hid (w9.heap[B]? = some (.cells (nodeC (.mk k o x s bb f ⟨(v1, v2), vc, vf⟩ ⟨(z1, z2), zc, zf⟩ l) (.slice a l.length cap)).toArray 49 (0, 0))) := by unfold Hid; rw [← hw9, hdr]; exact e7
                 clear e0 e1 e2 e3 e4 e5 e6 e7
                 have HR9 : Hid (w9.heap[B + 1]? = some (.cells #[.int .i64 0, .int .i64 0, .float .f64 0, .string ⟨#[]⟩, .bool false, .int .i64 0, .int .i64 0, .int .i64 0, .bool false, .bool false, .int .i64 0, .int .i64 0, .bool false, .bool false, .slice none 0 0] 49 (0, 0))) := by unfold Hid; rw [← hw9, hdr]; exact ((Below.heap_setCell _ _ _ _ (by simp)).trans ((Below.heap_setCell _ _ _ _ (by simp)).trans ((Below.heap_setCell _ _ _ _ (by simp)).trans ((Below.heap_setCell _ _ _ _ (by simp)).trans ((Below.heap_setCell _ _ _ _ (by simp)).trans ((Below.heap_setCell _ _ _ _ (by simp)).trans ((Below.heap_setCell _ _ _ _ (by simp)).trans ((Below.heap_setCell _ _ _ _ (by simp)).trans HB8.out))))))))
                 have HW9 : Hid (Wr (Hi B) wr w9) := by unfold Hid; rw [← hw9]; exact (((((((((HW7.out.trans (Wr.cell _ (show B ≤ B by omega))).trans (Wr.cell _ (show B ≤ B by omega))).trans (Wr.cell _ (show B ≤ B by omega))).trans (Wr.cell _ (show B ≤ B by omega))).trans (Wr.cell _ (show B ≤ B by omega))).trans (Wr.cell _ (show B ≤ B by omega))).trans (Wr.cell _ (show B ≤ B by omega))).trans (Wr.cell _ (show B ≤ B by omega))).trans (Wr.of_xt (Xt.refl _).drew))
                 rw [hw9]
                 clear hw9 d6 d7 d8 d9 d10 d11 d12 d13 g6 g7 g8 g9 g10 g11 g12 g13 hHeld hHeld3 hHeld5
                 go_wp2_with (first
                  | (refine wpList_load_row (P := Tryz.prog) rfl 49 _ rfl B rfl 49 _ (0, 0) _ HB9.out Tryz.underlying49 rfl (by kernel_rfl) ?_)
                  | (refine wpList_store_row (P := Tryz.prog) rfl 49 _ _ rfl (B + 1) _ rfl rfl 49 _ HR9.out (by kernel_rfl) (by kernel_rfl) (all_oneCell_toArray (nodeC_one (.mk k o x s bb f ⟨(v1, v2), vc, vf⟩ ⟨(z1, z2), zc, zf⟩ l) (.slice a l.length cap) rfl)) ?_))
                 (try simp only [Exit.inBlock, Exit.then])
                 refine bodyPost_ret (v := .agg (nodeC (.mk k o x s bb f ⟨(v1, v2), vc, vf⟩ ⟨(z1, z2), zc, zf⟩ l) (.slice a l.length cap)).toArray) (results_cell_row rfl _ _ (B + 1) 49 _ (0, 0) _ rfl (setRow_heap _ _ _ _ _ _ HR9.out) Tryz.underlying49 rfl (by kernel_rfl)) rfl ?_
                 have hTT : upT (shH cc rr) (.mk k o x s bb f ⟨(r1, r2), rc, rf⟩ ⟨(q1, q2), qc, qf⟩ l) = .mk k o x s bb f ⟨(v1, v2), vc, vf⟩ ⟨(z1, z2), zc, zf⟩ (l.map (upT (shH cc rr))) := by
                  rw [upT, upL_map, shH, if_neg (by rw [HK5.out]; decide), if_pos HK5.out, HZO.out, if_pos rfl, HVO.out, if_pos rfl, HZZ.out, HVV.out]
                  unfold loR hiR
                  have hc1 : v1 < z1 := by omega
                  have hc2 : v2 < z2 := by omega
                  simp only [if_pos hc1, if_pos hc2]
                 rw [hTT]
                 obtain ⟨f1, f2⟩ := fin_hi (W := w9.setRow (B + 1) (nodeC (.mk k o x s bb f ⟨(v1, v2), vc, vf⟩ ⟨(z1, z2), zc, zf⟩ l) (.slice a l.length cap)).toArray) HA'.out HWw.out HBw.out (fun b hb => by have := HS.out b hb; have := HBw.out; omega) (HW9.out.trans (Wr.row _ (show B ≤ B + 1 by omega)))
                 refine ⟨a, cap, ?_, ?_, f2⟩
                 · simp [nodeC, NodeT.args, NodeT.kind, NodeT.op, NodeT.x, NodeT.s, NodeT.b, NodeT.f, NodeT.ref, NodeT.to]
                 · simp only [NodeT.args, List.length_map]; exact f1
               · go_wp2_with fail
                 obtain ⟨wq, hwq⟩ : ∃ wq, ((((w6.setCell ⟨P, 0, none⟩ (.int .i64 v1)).setCell ⟨Q, 0, none⟩ (.int .i64 z1)).setCell ⟨P, 2, none⟩ (.bool vc)).setCell ⟨Q, 2, none⟩ (.bool zc)) = wq := ⟨_, rfl⟩
                 have HP7 : Hid (wq.heap[P]? = some (.cells #[.int .i64 v1, .int .i64 z2, .bool vc, .bool zf] 46 (0, 0))) := by unfold Hid; rw [← hwq]; exact (swap_rows (swap_rows (⟨HRP.out, HRQ.out⟩ : _ ∧ _).1 (⟨HRP.out, HRQ.out⟩ : _ ∧ _).2 hPQ 0 (.int .i64 v1) (.int .i64 z1)).1 (swap_rows (⟨HRP.out, HRQ.out⟩ : _ ∧ _).1 (⟨HRP.out, HRQ.out⟩ : _ ∧ _).2 hPQ 0 (.int .i64 v1) (.int .i64 z1)).2 hPQ 2 (.bool vc) (.bool zc)).1
                 have HQ7 : Hid (wq.heap[Q]? = some (.cells #[.int .i64 z1, .int .i64 v2, .bool zc, .bool vf] 46 (0, 0))) := by unfold Hid; rw [← hwq]; exact (swap_rows (swap_rows (⟨HRP.out, HRQ.out⟩ : _ ∧ _).1 (⟨HRP.out, HRQ.out⟩ : _ ∧ _).2 hPQ 0 (.int .i64 v1) (.int .i64 z1)).1 (swap_rows (⟨HRP.out, HRQ.out⟩ : _ ∧ _).1 (⟨HRP.out, HRQ.out⟩ : _ ∧ _).2 hPQ 0 (.int .i64 v1) (.int .i64 z1)).2 hPQ 2 (.bool vc) (.bool zc)).2
                 have HB7 : Hid (wq.heap[B]? = some (.cells #[.int .i64 k, .int .i64 o, .float .f64 x, .string s, .bool bb, .int .i64 f, .int .i64 r1, .int .i64 r2, .bool rc, .bool rf, .int .i64 q1, .int .i64 q2, .bool qc, .bool qf, .slice a l.length cap] 49 (0, 0))) := by unfold Hid; rw [← hwq]; exact ((Below.heap_setCell _ _ _ _ (fun e => by simp at e; omega)).trans ((Below.heap_setCell _ _ _ _ (fun e => by simp at e; omega)).trans ((Below.heap_setCell _ _ _ _ (fun e => by simp at e; omega)).trans ((Below.heap_setCell _ _ _ _ (fun e => by simp at e; omega)).trans (HEA.out _ HX6.out)))))
                 have HB8 : Hid (wq.heap[B + 1]? = some (.cells #[.int .i64 0, .int .i64 0, .float .f64 0, .string ⟨#[]⟩, .bool false, .int .i64 0, .int .i64 0, .int .i64 0, .bool false, .bool false, .int .i64 0, .int .i64 0, .bool false, .bool false, .slice none 0 0] 49 (0, 0))) := by unfold Hid; rw [← hwq]; exact ((Below.heap_setCell _ _ _ _ (fun e => by simp at e; omega)).trans ((Below.heap_setCell _ _ _ _ (fun e => by simp at e; omega)).trans ((Below.heap_setCell _ _ _ _ (fun e => by simp at e; omega)).trans ((Below.heap_setCell _ _ _ _ (fun e => by simp at e; omega)).trans (HEB.out _ HX6.out)))))
                 have HW7 : Hid (Wr (Hi B) wr wq) := by unfold Hid; rw [← hwq]; exact (((((Wr.of_xt HX6.out).trans (Wr.cell _ (show B ≤ P by omega))).trans (Wr.cell _ (show B ≤ Q by omega))).trans (Wr.cell _ (show B ≤ P by omega))).trans (Wr.cell _ (show B ≤ Q by omega)))
                 rw [hwq]
                 clear hwq d0 d6 d7 d8 d9 d10 d11 d12 d13 g6 g7 g8 g9 g10 g11 g12 g13 p0 p1 p2 p3 u0 u1 u2 u3 n0 n1 n2 n3 o0 o1 o2 o3
                 obtain ⟨⟨d6, d7, d8, d9, d10, d11, d12, d13⟩, g6, g7, g8, g9, g10, g11, g12, g13⟩ := nodeRefs HB7.out
                 refine wp_region_held_drew (S := fun V => V.heap[P]? = some (.cells #[.int .i64 v1, .int .i64 z2, .bool vc, .bool zf] 46 (0, 0)) ∧ V.heap[Q]? = some (.cells #[.int .i64 z1, .int .i64 v2, .bool zc, .bool vf] 46 (0, 0))) (by kernel_rfl) ⟨HP7.out, HQ7.out⟩ (fun hHeld => ?_)
                 refine tkH 0 ?_ ?_ ?_
                 rotate_left
                 · intro V hSw; obtain ⟨p0, p1, p2, p3, _⟩ := cells4R hSw.1; obtain ⟨n0, n1, n2, n3, _⟩ := cells4R hSw.2; go_simp; first | done | with_reducible rfl
                 try simp only [Act.put, nm]
                 refine tkH 1 ?_ ?_ ?_
                 rotate_left
                 · intro V hSw; obtain ⟨p0, p1, p2, p3, _⟩ := cells4R hSw.1; obtain ⟨n0, n1, n2, n3, _⟩ := cells4R hSw.2; go_simp; first | done | with_reducible rfl
                 try simp only [Act.put, nm]
                 refine tkH 2 ?_ ?_ ?_
                 rotate_left
                 · intro V hSw; obtain ⟨p0, p1, p2, p3, _⟩ := cells4R hSw.1; obtain ⟨n0, n1, n2, n3, _⟩ := cells4R hSw.2; go_simp; first | done | with_reducible rfl
                 try simp only [Act.put, nm]
                 refine rdH 3 (fun K hK => ?_)
                 go_simp
                 refine hK.out _ _ ?_ (fun hHeld3 => ?_)
                 · rw [hdr]
                   exact ⟨(cells_out8 (by omega) (cells_out8 (by omega) (cells_out8 (by omega) (cells_out8 (by omega) HP7.out _ _) _ _) _ _) _ _), (cells_out8 (by omega) (cells_out8 (by omega) (cells_out8 (by omega) (cells_out8 (by omega) HQ7.out _ _) _ _) _ _) _ _)⟩
                 clear hK K
                 try simp only [Act.put, nm]
                 refine tkH 4 ?_ ?_ ?_
                 rotate_left
                 · intro V hSw; obtain ⟨p0, p1, p2, p3, _⟩ := cells4R hSw.1; obtain ⟨n0, n1, n2, n3, _⟩ := cells4R hSw.2; go_simp; first | done | with_reducible rfl
                 try simp only [Act.put, nm]
                 refine rdH 5 (fun K hK => ?_)
                 go_simp
                 refine hK.out _ _ ?_ (fun hHeld5 => ?_)
                 · rw [hdr]
                   exact ⟨(cells_out8 (by omega) (cells_out8 (by omega) (cells_out8 (by omega) (cells_out8 (by omega) (cells_out8 (by omega) (cells_out8 (by omega) (cells_out8 (by omega) (cells_out8 (by omega) HP7.out _ _) _ _) _ _) _ _) _ _) _ _) _ _) _ _), (cells_out8 (by omega) (cells_out8 (by omega) (cells_out8 (by omega) (cells_out8 (by omega) (cells_out8 (by omega) (cells_out8 (by omega) (cells_out8 (by omega) (cells_out8 (by omega) HQ7.out _ _) _ _) _ _) _ _) _ _) _ _) _ _) _ _)⟩
                 clear hK K
                 try simp only [Act.put, nm]
                 refine wpAnyH_done (by kernel_rfl) ?_ _
                 obtain ⟨w9, hw9⟩ : ∃ w9, (((((((((wq.setCell ⟨B, 6, none⟩ (.int .i64 v1)).setCell ⟨B, 7, none⟩ (.int .i64 z2)).setCell ⟨B, 8, none⟩ (.bool vc)).setCell ⟨B, 9, none⟩ (.bool zf)).setCell ⟨B, 10, none⟩ (.int .i64 z1)).setCell ⟨B, 11, none⟩ (.int .i64 v2)).setCell ⟨B, 12, none⟩ (.bool zc)).setCell ⟨B, 13, none⟩ (.bool vf))).drew = w9 := ⟨_, rfl⟩
                 have e0 := setCell_row HB7.out 6 (.int .i64 v1)
                 simp only [List.setIfInBounds_toArray, List.set_cons_zero, List.set_cons_succ] at e0
                 have e1 := setCell_row e0 7 (.int .i64 z2)
                 simp only [List.setIfInBounds_toArray, List.set_cons_zero, List.set_cons_succ] at e1
                 have e2 := setCell_row e1 8 (.bool vc)
                 simp only [List.setIfInBounds_toArray, List.set_cons_zero, List.set_cons_succ] at e2
                 have e3 := setCell_row e2 9 (.bool zf)
                 simp only [List.setIfInBounds_toArray, List.set_cons_zero, List.set_cons_succ] at e3
                 have e4 := setCell_row e3 10 (.int .i64 z1)
                 simp only [List.setIfInBounds_toArray, List.set_cons_zero, List.set_cons_succ] at e4
                 have e5 := setCell_row e4 11 (.int .i64 v2)
                 simp only [List.setIfInBounds_toArray, List.set_cons_zero, List.set_cons_succ] at e5
                 have e6 := setCell_row e5 12 (.bool zc)
                 simp only [List.setIfInBounds_toArray, List.set_cons_zero, List.set_cons_succ] at e6
                 have e7 := setCell_row e6 13 (.bool vf)
                 simp only [List.setIfInBounds_toArray, List.set_cons_zero, List.set_cons_succ] at e7
                 have HB9 : Hid (w9.heap[B]? = some (.cells (nodeC (.mk k o x s bb f ⟨(v1, z2), vc, zf⟩ ⟨(z1, v2), zc, vf⟩ l) (.slice a l.length cap)).toArray 49 (0, 0))) := by unfold Hid; rw [← hw9, hdr]; exact e7
                 clear e0 e1 e2 e3 e4 e5 e6 e7
                 have HR9 : Hid (w9.heap[B + 1]? = some (.cells #[.int .i64 0, .int .i64 0, .float .f64 0, .string ⟨#[]⟩, .bool false, .int .i64 0, .int .i64 0, .int .i64 0, .bool false, .bool false, .int .i64 0, .int .i64 0, .bool false, .bool false, .slice none 0 0] 49 (0, 0))) := by unfold Hid; rw [← hw9, hdr]; exact ((Below.heap_setCell _ _ _ _ (by simp)).trans ((Below.heap_setCell _ _ _ _ (by simp)).trans ((Below.heap_setCell _ _ _ _ (by simp)).trans ((Below.heap_setCell _ _ _ _ (by simp)).trans ((Below.heap_setCell _ _ _ _ (by simp)).trans ((Below.heap_setCell _ _ _ _ (by simp)).trans ((Below.heap_setCell _ _ _ _ (by simp)).trans ((Below.heap_setCell _ _ _ _ (by simp)).trans HB8.out))))))))
                 have HW9 : Hid (Wr (Hi B) wr w9) := by unfold Hid; rw [← hw9]; exact (((((((((HW7.out.trans (Wr.cell _ (show B ≤ B by omega))).trans (Wr.cell _ (show B ≤ B by omega))).trans (Wr.cell _ (show B ≤ B by omega))).trans (Wr.cell _ (show B ≤ B by omega))).trans (Wr.cell _ (show B ≤ B by omega))).trans (Wr.cell _ (show B ≤ B by omega))).trans (Wr.cell _ (show B ≤ B by omega))).trans (Wr.cell _ (show B ≤ B by omega))).trans (Wr.of_xt (Xt.refl _).drew))
                 rw [hw9]
                 clear hw9 d6 d7 d8 d9 d10 d11 d12 d13 g6 g7 g8 g9 g10 g11 g12 g13 hHeld hHeld3 hHeld5
                 go_wp2_with (first
                  | (refine wpList_load_row (P := Tryz.prog) rfl 49 _ rfl B rfl 49 _ (0, 0) _ HB9.out Tryz.underlying49 rfl (by kernel_rfl) ?_)
                  | (refine wpList_store_row (P := Tryz.prog) rfl 49 _ _ rfl (B + 1) _ rfl rfl 49 _ HR9.out (by kernel_rfl) (by kernel_rfl) (all_oneCell_toArray (nodeC_one (.mk k o x s bb f ⟨(v1, z2), vc, zf⟩ ⟨(z1, v2), zc, vf⟩ l) (.slice a l.length cap) rfl)) ?_))
                 (try simp only [Exit.inBlock, Exit.then])
                 refine bodyPost_ret (v := .agg (nodeC (.mk k o x s bb f ⟨(v1, z2), vc, zf⟩ ⟨(z1, v2), zc, vf⟩ l) (.slice a l.length cap)).toArray) (results_cell_row rfl _ _ (B + 1) 49 _ (0, 0) _ rfl (setRow_heap _ _ _ _ _ _ HR9.out) Tryz.underlying49 rfl (by kernel_rfl)) rfl ?_
                 have hTT : upT (shH cc rr) (.mk k o x s bb f ⟨(r1, r2), rc, rf⟩ ⟨(q1, q2), qc, qf⟩ l) = .mk k o x s bb f ⟨(v1, z2), vc, zf⟩ ⟨(z1, v2), zc, vf⟩ (l.map (upT (shH cc rr))) := by
                  rw [upT, upL_map, shH, if_neg (by rw [HK5.out]; decide), if_pos HK5.out, HZO.out, if_pos rfl, HVO.out, if_pos rfl, HZZ.out, HVV.out]
                  unfold loR hiR
                  have hc1 : v1 < z1 := by omega
                  have hc2 : ¬ v2 < z2 := by omega
                  simp only [if_pos hc1, if_neg hc2]
                 rw [hTT]
                 obtain ⟨f1, f2⟩ := fin_hi (W := w9.setRow (B + 1) (nodeC (.mk k o x s bb f ⟨(v1, z2), vc, zf⟩ ⟨(z1, v2), zc, vf⟩ l) (.slice a l.length cap)).toArray) HA'.out HWw.out HBw.out (fun b hb => by have := HS.out b hb; have := HBw.out; omega) (HW9.out.trans (Wr.row _ (show B ≤ B + 1 by omega)))
                 refine ⟨a, cap, ?_, ?_, f2⟩
                 · simp [nodeC, NodeT.args, NodeT.kind, NodeT.op, NodeT.x, NodeT.s, NodeT.b, NodeT.f, NodeT.ref, NodeT.to]
                 · simp only [NodeT.args, List.length_map]; exact f1
             · by_cases hrow : v2 < z2
               · go_wp2_with fail
                 obtain ⟨wq, hwq⟩ : ∃ wq, ((((w6.setCell ⟨P, 1, none⟩ (.int .i64 v2)).setCell ⟨Q, 1, none⟩ (.int .i64 z2)).setCell ⟨P, 3, none⟩ (.bool vf)).setCell ⟨Q, 3, none⟩ (.bool zf)) = wq := ⟨_, rfl⟩
                 have HP7 : Hid (wq.heap[P]? = some (.cells #[.int .i64 z1, .int .i64 v2, .bool zc, .bool vf] 46 (0, 0))) := by unfold Hid; rw [← hwq]; exact (swap_rows (swap_rows (⟨HRP.out, HRQ.out⟩ : _ ∧ _).1 (⟨HRP.out, HRQ.out⟩ : _ ∧ _).2 hPQ 1 (.int .i64 v2) (.int .i64 z2)).1 (swap_rows (⟨HRP.out, HRQ.out⟩ : _ ∧ _).1 (⟨HRP.out, HRQ.out⟩ : _ ∧ _).2 hPQ 1 (.int .i64 v2) (.int .i64 z2)).2 hPQ 3 (.bool vf) (.bool zf)).1
                 have HQ7 : Hid (wq.heap[Q]? = some (.cells #[.int .i64 v1, .int .i64 z2, .bool vc, .bool zf] 46 (0, 0))) := by unfold Hid; rw [← hwq]; exact (swap_rows (swap_rows (⟨HRP.out, HRQ.out⟩ : _ ∧ _).1 (⟨HRP.out, HRQ.out⟩ : _ ∧ _).2 hPQ 1 (.int .i64 v2) (.int .i64 z2)).1 (swap_rows (⟨HRP.out, HRQ.out⟩ : _ ∧ _).1 (⟨HRP.out, HRQ.out⟩ : _ ∧ _).2 hPQ 1 (.int .i64 v2) (.int .i64 z2)).2 hPQ 3 (.bool vf) (.bool zf)).2
                 have HB7 : Hid (wq.heap[B]? = some (.cells #[.int .i64 k, .int .i64 o, .float .f64 x, .string s, .bool bb, .int .i64 f, .int .i64 r1, .int .i64 r2, .bool rc, .bool rf, .int .i64 q1, .int .i64 q2, .bool qc, .bool qf, .slice a l.length cap] 49 (0, 0))) := by unfold Hid; rw [← hwq]; exact ((Below.heap_setCell _ _ _ _ (fun e => by simp at e; omega)).trans ((Below.heap_setCell _ _ _ _ (fun e => by simp at e; omega)).trans ((Below.heap_setCell _ _ _ _ (fun e => by simp at e; omega)).trans ((Below.heap_setCell _ _ _ _ (fun e => by simp at e; omega)).trans (HEA.out _ HX6.out)))))
                 have HB8 : Hid (wq.heap[B + 1]? = some (.cells #[.int .i64 0, .int .i64 0, .float .f64 0, .string ⟨#[]⟩, .bool false, .int .i64 0, .int .i64 0, .int .i64 0, .bool false, .bool false, .int .i64 0, .int .i64 0, .bool false, .bool false, .slice none 0 0] 49 (0, 0))) := by unfold Hid; rw [← hwq]; exact ((Below.heap_setCell _ _ _ _ (fun e => by simp at e; omega)).trans ((Below.heap_setCell _ _ _ _ (fun e => by simp at e; omega)).trans ((Below.heap_setCell _ _ _ _ (fun e => by simp at e; omega)).trans ((Below.heap_setCell _ _ _ _ (fun e => by simp at e; omega)).trans (HEB.out _ HX6.out)))))
                 have HW7 : Hid (Wr (Hi B) wr wq) := by unfold Hid; rw [← hwq]; exact (((((Wr.of_xt HX6.out).trans (Wr.cell _ (show B ≤ P by omega))).trans (Wr.cell _ (show B ≤ Q by omega))).trans (Wr.cell _ (show B ≤ P by omega))).trans (Wr.cell _ (show B ≤ Q by omega)))
                 rw [hwq]
                 clear hwq d0 d6 d7 d8 d9 d10 d11 d12 d13 g6 g7 g8 g9 g10 g11 g12 g13 p0 p1 p2 p3 u0 u1 u2 u3 n0 n1 n2 n3 o0 o1 o2 o3
                 obtain ⟨⟨d6, d7, d8, d9, d10, d11, d12, d13⟩, g6, g7, g8, g9, g10, g11, g12, g13⟩ := nodeRefs HB7.out
                 refine wp_region_held_drew (S := fun V => V.heap[P]? = some (.cells #[.int .i64 z1, .int .i64 v2, .bool zc, .bool vf] 46 (0, 0)) ∧ V.heap[Q]? = some (.cells #[.int .i64 v1, .int .i64 z2, .bool vc, .bool zf] 46 (0, 0))) (by kernel_rfl) ⟨HP7.out, HQ7.out⟩ (fun hHeld => ?_)
                 refine tkH 0 ?_ ?_ ?_
                 rotate_left
                 · intro V hSw; obtain ⟨p0, p1, p2, p3, _⟩ := cells4R hSw.1; obtain ⟨n0, n1, n2, n3, _⟩ := cells4R hSw.2; go_simp; first | done | with_reducible rfl
                 try simp only [Act.put, nm]
                 refine tkH 1 ?_ ?_ ?_
                 rotate_left
                 · intro V hSw; obtain ⟨p0, p1, p2, p3, _⟩ := cells4R hSw.1; obtain ⟨n0, n1, n2, n3, _⟩ := cells4R hSw.2; go_simp; first | done | with_reducible rfl
                 try simp only [Act.put, nm]
                 refine tkH 2 ?_ ?_ ?_
                 rotate_left
                 · intro V hSw; obtain ⟨p0, p1, p2, p3, _⟩ := cells4R hSw.1; obtain ⟨n0, n1, n2, n3, _⟩ := cells4R hSw.2; go_simp; first | done | with_reducible rfl
                 try simp only [Act.put, nm]
                 refine rdH 3 (fun K hK => ?_)
                 go_simp
                 refine hK.out _ _ ?_ (fun hHeld3 => ?_)
                 · rw [hdr]
                   exact ⟨(cells_out8 (by omega) (cells_out8 (by omega) (cells_out8 (by omega) (cells_out8 (by omega) HP7.out _ _) _ _) _ _) _ _), (cells_out8 (by omega) (cells_out8 (by omega) (cells_out8 (by omega) (cells_out8 (by omega) HQ7.out _ _) _ _) _ _) _ _)⟩
                 clear hK K
                 try simp only [Act.put, nm]
                 refine tkH 4 ?_ ?_ ?_
                 rotate_left
                 · intro V hSw; obtain ⟨p0, p1, p2, p3, _⟩ := cells4R hSw.1; obtain ⟨n0, n1, n2, n3, _⟩ := cells4R hSw.2; go_simp; first | done | with_reducible rfl
                 try simp only [Act.put, nm]
                 refine rdH 5 (fun K hK => ?_)
                 go_simp
                 refine hK.out _ _ ?_ (fun hHeld5 => ?_)
                 · rw [hdr]
                   exact ⟨(cells_out8 (by omega) (cells_out8 (by omega) (cells_out8 (by omega) (cells_out8 (by omega) (cells_out8 (by omega) (cells_out8 (by omega) (cells_out8 (by omega) (cells_out8 (by omega) HP7.out _ _) _ _) _ _) _ _) _ _) _ _) _ _) _ _), (cells_out8 (by omega) (cells_out8 (by omega) (cells_out8 (by omega) (cells_out8 (by omega) (cells_out8 (by omega) (cells_out8 (by omega) (cells_out8 (by omega) (cells_out8 (by omega) HQ7.out _ _) _ _) _ _) _ _) _ _) _ _) _ _) _ _)⟩
                 clear hK K
                 try simp only [Act.put, nm]
                 refine wpAnyH_done (by kernel_rfl) ?_ _
                 obtain ⟨w9, hw9⟩ : ∃ w9, (((((((((wq.setCell ⟨B, 6, none⟩ (.int .i64 z1)).setCell ⟨B, 7, none⟩ (.int .i64 v2)).setCell ⟨B, 8, none⟩ (.bool zc)).setCell ⟨B, 9, none⟩ (.bool vf)).setCell ⟨B, 10, none⟩ (.int .i64 v1)).setCell ⟨B, 11, none⟩ (.int .i64 z2)).setCell ⟨B, 12, none⟩ (.bool vc)).setCell ⟨B, 13, none⟩ (.bool zf))).drew = w9 := ⟨_, rfl⟩
                 have e0 := setCell_row HB7.out 6 (.int .i64 z1)
                 simp only [List.setIfInBounds_toArray, List.set_cons_zero, List.set_cons_succ] at e0
                 have e1 := setCell_row e0 7 (.int .i64 v2)
                 simp only [List.setIfInBounds_toArray, List.set_cons_zero, List.set_cons_succ] at e1
                 have e2 := setCell_row e1 8 (.bool zc)
                 simp only [List.setIfInBounds_toArray, List.set_cons_zero, List.set_cons_succ] at e2
                 have e3 := setCell_row e2 9 (.bool vf)
                 simp only [List.setIfInBounds_toArray, List.set_cons_zero, List.set_cons_succ] at e3
                 have e4 := setCell_row e3 10 (.int .i64 v1)
                 simp only [List.setIfInBounds_toArray, List.set_cons_zero, List.set_cons_succ] at e4
                 have e5 := setCell_row e4 11 (.int .i64 z2)
                 simp only [List.setIfInBounds_toArray, List.set_cons_zero, List.set_cons_succ] at e5
                 have e6 := setCell_row e5 12 (.bool vc)
                 simp only [List.setIfInBounds_toArray, List.set_cons_zero, List.set_cons_succ] at e6
                 have e7 := setCell_row e6 13 (.bool zf)
                 simp only [List.setIfInBounds_toArray, List.set_cons_zero, List.set_cons_succ] at e7
                 have HB9 : Hid (w9.heap[B]? = some (.cells (nodeC (.mk k o x s bb f ⟨(z1, v2), zc, vf⟩ ⟨(v1, z2), vc, zf⟩ l) (.slice a l.length cap)).toArray 49 (0, 0))) := by unfold Hid; rw [← hw9, hdr]; exact e7
                 clear e0 e1 e2 e3 e4 e5 e6 e7
                 have HR9 : Hid (w9.heap[B + 1]? = some (.cells #[.int .i64 0, .int .i64 0, .float .f64 0, .string ⟨#[]⟩, .bool false, .int .i64 0, .int .i64 0, .int .i64 0, .bool false, .bool false, .int .i64 0, .int .i64 0, .bool false, .bool false, .slice none 0 0] 49 (0, 0))) := by unfold Hid; rw [← hw9, hdr]; exact ((Below.heap_setCell _ _ _ _ (by simp)).trans ((Below.heap_setCell _ _ _ _ (by simp)).trans ((Below.heap_setCell _ _ _ _ (by simp)).trans ((Below.heap_setCell _ _ _ _ (by simp)).trans ((Below.heap_setCell _ _ _ _ (by simp)).trans ((Below.heap_setCell _ _ _ _ (by simp)).trans ((Below.heap_setCell _ _ _ _ (by simp)).trans ((Below.heap_setCell _ _ _ _ (by simp)).trans HB8.out))))))))
                 have HW9 : Hid (Wr (Hi B) wr w9) := by unfold Hid; rw [← hw9]; exact (((((((((HW7.out.trans (Wr.cell _ (show B ≤ B by omega))).trans (Wr.cell _ (show B ≤ B by omega))).trans (Wr.cell _ (show B ≤ B by omega))).trans (Wr.cell _ (show B ≤ B by omega))).trans (Wr.cell _ (show B ≤ B by omega))).trans (Wr.cell _ (show B ≤ B by omega))).trans (Wr.cell _ (show B ≤ B by omega))).trans (Wr.cell _ (show B ≤ B by omega))).trans (Wr.of_xt (Xt.refl _).drew))
                 rw [hw9]
                 clear hw9 d6 d7 d8 d9 d10 d11 d12 d13 g6 g7 g8 g9 g10 g11 g12 g13 hHeld hHeld3 hHeld5
                 go_wp2_with (first
                  | (refine wpList_load_row (P := Tryz.prog) rfl 49 _ rfl B rfl 49 _ (0, 0) _ HB9.out Tryz.underlying49 rfl (by kernel_rfl) ?_)
                  | (refine wpList_store_row (P := Tryz.prog) rfl 49 _ _ rfl (B + 1) _ rfl rfl 49 _ HR9.out (by kernel_rfl) (by kernel_rfl) (all_oneCell_toArray (nodeC_one (.mk k o x s bb f ⟨(z1, v2), zc, vf⟩ ⟨(v1, z2), vc, zf⟩ l) (.slice a l.length cap) rfl)) ?_))
                 (try simp only [Exit.inBlock, Exit.then])
                 refine bodyPost_ret (v := .agg (nodeC (.mk k o x s bb f ⟨(z1, v2), zc, vf⟩ ⟨(v1, z2), vc, zf⟩ l) (.slice a l.length cap)).toArray) (results_cell_row rfl _ _ (B + 1) 49 _ (0, 0) _ rfl (setRow_heap _ _ _ _ _ _ HR9.out) Tryz.underlying49 rfl (by kernel_rfl)) rfl ?_
                 have hTT : upT (shH cc rr) (.mk k o x s bb f ⟨(r1, r2), rc, rf⟩ ⟨(q1, q2), qc, qf⟩ l) = .mk k o x s bb f ⟨(z1, v2), zc, vf⟩ ⟨(v1, z2), vc, zf⟩ (l.map (upT (shH cc rr))) := by
                  rw [upT, upL_map, shH, if_neg (by rw [HK5.out]; decide), if_pos HK5.out, HZO.out, if_pos rfl, HVO.out, if_pos rfl, HZZ.out, HVV.out]
                  unfold loR hiR
                  have hc1 : ¬ v1 < z1 := by omega
                  have hc2 : v2 < z2 := by omega
                  simp only [if_neg hc1, if_pos hc2]
                 rw [hTT]
                 obtain ⟨f1, f2⟩ := fin_hi (W := w9.setRow (B + 1) (nodeC (.mk k o x s bb f ⟨(z1, v2), zc, vf⟩ ⟨(v1, z2), vc, zf⟩ l) (.slice a l.length cap)).toArray) HA'.out HWw.out HBw.out (fun b hb => by have := HS.out b hb; have := HBw.out; omega) (HW9.out.trans (Wr.row _ (show B ≤ B + 1 by omega)))
                 refine ⟨a, cap, ?_, ?_, f2⟩
                 · simp [nodeC, NodeT.args, NodeT.kind, NodeT.op, NodeT.x, NodeT.s, NodeT.b, NodeT.f, NodeT.ref, NodeT.to]
                 · simp only [NodeT.args, List.length_map]; exact f1
               · go_wp2_with fail
                 obtain ⟨wq, hwq⟩ : ∃ wq, wq = w6 := ⟨_, rfl⟩
                 have HP7 : Hid (wq.heap[P]? = some (.cells #[.int .i64 z1, .int .i64 z2, .bool zc, .bool zf] 46 (0, 0))) := by unfold Hid; rw [hwq]; exact (⟨HRP.out, HRQ.out⟩ : _ ∧ _).1
                 have HQ7 : Hid (wq.heap[Q]? = some (.cells #[.int .i64 v1, .int .i64 v2, .bool vc, .bool vf] 46 (0, 0))) := by unfold Hid; rw [hwq]; exact (⟨HRP.out, HRQ.out⟩ : _ ∧ _).2
                 have HB7 : Hid (wq.heap[B]? = some (.cells #[.int .i64 k, .int .i64 o, .float .f64 x, .string s, .bool bb, .int .i64 f, .int .i64 r1, .int .i64 r2, .bool rc, .bool rf, .int .i64 q1, .int .i64 q2, .bool qc, .bool qf, .slice a l.length cap] 49 (0, 0))) := by unfold Hid; rw [hwq]; exact (HEA.out _ HX6.out)
                 have HB8 : Hid (wq.heap[B + 1]? = some (.cells #[.int .i64 0, .int .i64 0, .float .f64 0, .string ⟨#[]⟩, .bool false, .int .i64 0, .int .i64 0, .int .i64 0, .bool false, .bool false, .int .i64 0, .int .i64 0, .bool false, .bool false, .slice none 0 0] 49 (0, 0))) := by unfold Hid; rw [hwq]; exact (HEB.out _ HX6.out)
                 have HW7 : Hid (Wr (Hi B) wr wq) := by unfold Hid; rw [hwq]; exact (Wr.of_xt HX6.out)
                 subst hwq
                 clear d0 d6 d7 d8 d9 d10 d11 d12 d13 g6 g7 g8 g9 g10 g11 g12 g13 p0 p1 p2 p3 u0 u1 u2 u3 n0 n1 n2 n3 o0 o1 o2 o3
                 obtain ⟨⟨d6, d7, d8, d9, d10, d11, d12, d13⟩, g6, g7, g8, g9, g10, g11, g12, g13⟩ := nodeRefs HB7.out
                 refine wp_region_held_drew (S := fun V => V.heap[P]? = some (.cells #[.int .i64 z1, .int .i64 z2, .bool zc, .bool zf] 46 (0, 0)) ∧ V.heap[Q]? = some (.cells #[.int .i64 v1, .int .i64 v2, .bool vc, .bool vf] 46 (0, 0))) (by kernel_rfl) ⟨HP7.out, HQ7.out⟩ (fun hHeld => ?_)
                 refine tkH 0 ?_ ?_ ?_
                 rotate_left
                 · intro V hSw; obtain ⟨p0, p1, p2, p3, _⟩ := cells4R hSw.1; obtain ⟨n0, n1, n2, n3, _⟩ := cells4R hSw.2; go_simp; first | done | with_reducible rfl
                 try simp only [Act.put, nm]
                 refine tkH 1 ?_ ?_ ?_
                 rotate_left
                 · intro V hSw; obtain ⟨p0, p1, p2, p3, _⟩ := cells4R hSw.1; obtain ⟨n0, n1, n2, n3, _⟩ := cells4R hSw.2; go_simp; first | done | with_reducible rfl
                 try simp only [Act.put, nm]
                 refine tkH 2 ?_ ?_ ?_
                 rotate_left
                 · intro V hSw; obtain ⟨p0, p1, p2, p3, _⟩ := cells4R hSw.1; obtain ⟨n0, n1, n2, n3, _⟩ := cells4R hSw.2; go_simp; first | done | with_reducible rfl
                 try simp only [Act.put, nm]
                 refine rdH 3 (fun K hK => ?_)
                 go_simp
                 refine hK.out _ _ ?_ (fun hHeld3 => ?_)
                 · rw [hdr]
                   exact ⟨(cells_out8 (by omega) (cells_out8 (by omega) (cells_out8 (by omega) (cells_out8 (by omega) HP7.out _ _) _ _) _ _) _ _), (cells_out8 (by omega) (cells_out8 (by omega) (cells_out8 (by omega) (cells_out8 (by omega) HQ7.out _ _) _ _) _ _) _ _)⟩
                 clear hK K
                 try simp only [Act.put, nm]
                 refine tkH 4 ?_ ?_ ?_
                 rotate_left
                 · intro V hSw; obtain ⟨p0, p1, p2, p3, _⟩ := cells4R hSw.1; obtain ⟨n0, n1, n2, n3, _⟩ := cells4R hSw.2; go_simp; first | done | with_reducible rfl
                 try simp only [Act.put, nm]
                 refine rdH 5 (fun K hK => ?_)
                 go_simp
                 refine hK.out _ _ ?_ (fun hHeld5 => ?_)
                 · rw [hdr]
                   exact ⟨(cells_out8 (by omega) (cells_out8 (by omega) (cells_out8 (by omega) (cells_out8 (by omega) (cells_out8 (by omega) (cells_out8 (by omega) (cells_out8 (by omega) (cells_out8 (by omega) HP7.out _ _) _ _) _ _) _ _) _ _) _ _) _ _) _ _), (cells_out8 (by omega) (cells_out8 (by omega) (cells_out8 (by omega) (cells_out8 (by omega) (cells_out8 (by omega) (cells_out8 (by omega) (cells_out8 (by omega) (cells_out8 (by omega) HQ7.out _ _) _ _) _ _) _ _) _ _) _ _) _ _) _ _)⟩
                 clear hK K
                 try simp only [Act.put, nm]
                 refine wpAnyH_done (by kernel_rfl) ?_ _
                 obtain ⟨w9, hw9⟩ : ∃ w9, (((((((((wq.setCell ⟨B, 6, none⟩ (.int .i64 z1)).setCell ⟨B, 7, none⟩ (.int .i64 z2)).setCell ⟨B, 8, none⟩ (.bool zc)).setCell ⟨B, 9, none⟩ (.bool zf)).setCell ⟨B, 10, none⟩ (.int .i64 v1)).setCell ⟨B, 11, none⟩ (.int .i64 v2)).setCell ⟨B, 12, none⟩ (.bool vc)).setCell ⟨B, 13, none⟩ (.bool vf))).drew = w9 := ⟨_, rfl⟩
                 have e0 := setCell_row HB7.out 6 (.int .i64 z1)
                 simp only [List.setIfInBounds_toArray, List.set_cons_zero, List.set_cons_succ] at e0
                 have e1 := setCell_row e0 7 (.int .i64 z2)
                 simp only [List.setIfInBounds_toArray, List.set_cons_zero, List.set_cons_succ] at e1
                 have e2 := setCell_row e1 8 (.bool zc)
                 simp only [List.setIfInBounds_toArray, List.set_cons_zero, List.set_cons_succ] at e2
                 have e3 := setCell_row e2 9 (.bool zf)
                 simp only [List.setIfInBounds_toArray, List.set_cons_zero, List.set_cons_succ] at e3
                 have e4 := setCell_row e3 10 (.int .i64 v1)
                 simp only [List.setIfInBounds_toArray, List.set_cons_zero, List.set_cons_succ] at e4
                 have e5 := setCell_row e4 11 (.int .i64 v2)
                 simp only [List.setIfInBounds_toArray, List.set_cons_zero, List.set_cons_succ] at e5
                 have e6 := setCell_row e5 12 (.bool vc)
                 simp only [List.setIfInBounds_toArray, List.set_cons_zero, List.set_cons_succ] at e6
                 have e7 := setCell_row e6 13 (.bool vf)
                 simp only [List.setIfInBounds_toArray, List.set_cons_zero, List.set_cons_succ] at e7
                 have HB9 : Hid (w9.heap[B]? = some (.cells (nodeC (.mk k o x s bb f ⟨(z1, z2), zc, zf⟩ ⟨(v1, v2), vc, vf⟩ l) (.slice a l.length cap)).toArray 49 (0, 0))) := by unfold Hid; rw [← hw9, hdr]; exact e7
                 clear e0 e1 e2 e3 e4 e5 e6 e7
                 have HR9 : Hid (w9.heap[B + 1]? = some (.cells #[.int .i64 0, .int .i64 0, .float .f64 0, .string ⟨#[]⟩, .bool false, .int .i64 0, .int .i64 0, .int .i64 0, .bool false, .bool false, .int .i64 0, .int .i64 0, .bool false, .bool false, .slice none 0 0] 49 (0, 0))) := by unfold Hid; rw [← hw9, hdr]; exact ((Below.heap_setCell _ _ _ _ (by simp)).trans ((Below.heap_setCell _ _ _ _ (by simp)).trans ((Below.heap_setCell _ _ _ _ (by simp)).trans ((Below.heap_setCell _ _ _ _ (by simp)).trans ((Below.heap_setCell _ _ _ _ (by simp)).trans ((Below.heap_setCell _ _ _ _ (by simp)).trans ((Below.heap_setCell _ _ _ _ (by simp)).trans ((Below.heap_setCell _ _ _ _ (by simp)).trans HB8.out))))))))
                 have HW9 : Hid (Wr (Hi B) wr w9) := by unfold Hid; rw [← hw9]; exact (((((((((HW7.out.trans (Wr.cell _ (show B ≤ B by omega))).trans (Wr.cell _ (show B ≤ B by omega))).trans (Wr.cell _ (show B ≤ B by omega))).trans (Wr.cell _ (show B ≤ B by omega))).trans (Wr.cell _ (show B ≤ B by omega))).trans (Wr.cell _ (show B ≤ B by omega))).trans (Wr.cell _ (show B ≤ B by omega))).trans (Wr.cell _ (show B ≤ B by omega))).trans (Wr.of_xt (Xt.refl _).drew))
                 rw [hw9]
                 clear hw9 d6 d7 d8 d9 d10 d11 d12 d13 g6 g7 g8 g9 g10 g11 g12 g13 hHeld hHeld3 hHeld5
                 go_wp2_with (first
                  | (refine wpList_load_row (P := Tryz.prog) rfl 49 _ rfl B rfl 49 _ (0, 0) _ HB9.out Tryz.underlying49 rfl (by kernel_rfl) ?_)
                  | (refine wpList_store_row (P := Tryz.prog) rfl 49 _ _ rfl (B + 1) _ rfl rfl 49 _ HR9.out (by kernel_rfl) (by kernel_rfl) (all_oneCell_toArray (nodeC_one (.mk k o x s bb f ⟨(z1, z2), zc, zf⟩ ⟨(v1, v2), vc, vf⟩ l) (.slice a l.length cap) rfl)) ?_))
                 (try simp only [Exit.inBlock, Exit.then])
                 refine bodyPost_ret (v := .agg (nodeC (.mk k o x s bb f ⟨(z1, z2), zc, zf⟩ ⟨(v1, v2), vc, vf⟩ l) (.slice a l.length cap)).toArray) (results_cell_row rfl _ _ (B + 1) 49 _ (0, 0) _ rfl (setRow_heap _ _ _ _ _ _ HR9.out) Tryz.underlying49 rfl (by kernel_rfl)) rfl ?_
                 have hTT : upT (shH cc rr) (.mk k o x s bb f ⟨(r1, r2), rc, rf⟩ ⟨(q1, q2), qc, qf⟩ l) = .mk k o x s bb f ⟨(z1, z2), zc, zf⟩ ⟨(v1, v2), vc, vf⟩ (l.map (upT (shH cc rr))) := by
                  rw [upT, upL_map, shH, if_neg (by rw [HK5.out]; decide), if_pos HK5.out, HZO.out, if_pos rfl, HVO.out, if_pos rfl, HZZ.out, HVV.out]
                  unfold loR hiR
                  have hc1 : ¬ v1 < z1 := by omega
                  have hc2 : ¬ v2 < z2 := by omega
                  simp only [if_neg hc1, if_neg hc2]
                 rw [hTT]
                 obtain ⟨f1, f2⟩ := fin_hi (W := w9.setRow (B + 1) (nodeC (.mk k o x s bb f ⟨(z1, z2), zc, zf⟩ ⟨(v1, v2), vc, vf⟩ l) (.slice a l.length cap)).toArray) HA'.out HWw.out HBw.out (fun b hb => by have := HS.out b hb; have := HBw.out; omega) (HW9.out.trans (Wr.row _ (show B ≤ B + 1 by omega)))
                 refine ⟨a, cap, ?_, ?_, f2⟩
                 · simp [nodeC, NodeT.args, NodeT.kind, NodeT.op, NodeT.x, NodeT.s, NodeT.b, NodeT.f, NodeT.ref, NodeT.to]
                 · simp only [NodeT.args, List.length_map]; exact f1
     · have h5 : k ≠ 5 := fun e => h56 (Or.inl e)
       have h6 : k ≠ 6 := fun e => h56 (Or.inr e)
       have h5b : (k != 5) = true := by simpa using h5
       have h6b : (k != 6) = true := by simpa using h6
       clear h56
       go_wp2_with (first
        | (refine wpList_load_row (P := Tryz.prog) rfl 49 _ rfl B rfl 49 _ (0, 0) _ HRBr.out Tryz.underlying49 rfl (by kernel_rfl) ?_)
        | (refine wpList_store_row (P := Tryz.prog) rfl 49 _ _ rfl (B + 1) _ rfl rfl 49 _ HRRr.out (by kernel_rfl) (by kernel_rfl) (all_oneCell_toArray (nodeC_one (.mk k o x s bb f ⟨(r1, r2), rc, rf⟩ ⟨(q1, q2), qc, qf⟩ l) (.slice a l.length cap) rfl)) ?_))
       (try simp only [Exit.inBlock, Exit.then])
       refine bodyPost_ret (v := .agg (nodeC (.mk k o x s bb f ⟨(r1, r2), rc, rf⟩ ⟨(q1, q2), qc, qf⟩ l) (.slice a l.length cap)).toArray) (results_cell_row rfl _ _ (B + 1) 49 _ (0, 0) _ rfl (setRow_heap _ _ _ _ _ _ HRRr.out) Tryz.underlying49 rfl (by kernel_rfl)) rfl ?_
       have hTT : upT (shH cc rr) (.mk k o x s bb f ⟨(r1, r2), rc, rf⟩ ⟨(q1, q2), qc, qf⟩ l) = .mk k o x s bb f ⟨(r1, r2), rc, rf⟩ ⟨(q1, q2), qc, qf⟩ (l.map (upT (shH cc rr))) := by rw [upT, upL_map]; simp [shH, h5, h6]
       rw [hTT]
       obtain ⟨f1, f2⟩ := fin_hi (W := wr.setRow (B + 1) (nodeC (.mk k o x s bb f ⟨(r1, r2), rc, rf⟩ ⟨(q1, q2), qc, qf⟩ l) (.slice a l.length cap)).toArray) HA'.out HWw.out HBw.out (fun b hb => by have := HS.out b hb; have := HBw.out; omega) (Wr.row _ (by show B ≤ B + 1; omega))
       refine ⟨a, cap, ?_, ?_, f2⟩
       · simp [nodeC, NodeT.args, NodeT.kind, NodeT.op, NodeT.x, NodeT.s, NodeT.b, NodeT.f, NodeT.ref, NodeT.to]
       · simp only [NodeT.args, List.length_map]; exact f1
end Go.Proofs.YtdoeejhdenifpaaGreatDoor
