import Derived.Test.YtideclfpbpjebaaGreatDoorB33
import Derived.Test.YtideclfpbpjebaaGreatDoorB30
namespace Go.Proofs.YtideclfpbpjebaaGreatDoor
section
open Go.RowKit Go.Sort Go.Maps Go.Shelf Go.MapKept
attribute [local go_sem] Oper.semAt_some

/-- What is left of the puts that are gone through, from the i-th on. -/
structure PJ (w0 w1 w : World) (lb c : Nat) (l : List PutE) (t : Nat → Nat) (i : Nat) (wr : World) : Prop where
  fr : Wr (fun b => w0.heap.size ≤ b ∧ b < w1.heap.size) w wr
  row : l ≠ [] → ∃ cur : Array Value, wr.heap[lb]? = some (Obj.cells cur 84 (0, 0)) ∧ cur.size = c * 23
  at_ : ∀ j x, i ≤ j → l[j]? = some x → wr.rangeAt lb (j * 23) (putC x)
  el : ∀ j x, i ≤ j → l[j]? = some x → okPut (fun b => ((t j ≤ b ∧ b < t (j + 1)) ∧ w0.heap.size ≤ b ∧ b < w1.heap.size ∧ b ≠ lb) ∧ ∃ cur : Array Value, wr.heap[b]? = some (Obj.cells cur 44 (0, 0))) wr x
theorem okPut.rows {S : Nat → Prop} {w : World} {x : PutE} (h : okPut S w x) : okPut (fun b => S b ∧ ∃ cur : Array Value, w.heap[b]? = some (Obj.cells cur 44 (0, 0))) w x := ⟨h.1, let ⟨n, hn⟩ := h.2; ⟨n, hn.rows⟩⟩
theorem PJ.start {w0 w1 w : World} {a : Option Addr} {c : Nat} {l : List PutE} (h : PutsOwn w1 w0.heap.size (.slice a l.length c) l) (_hx0 : Xt w0 w1) (hx1 : Xt w1 w) : ∃ lb t, PJ w0 w1 w lb c l t 0 w ∧ (l ≠ [] → a = some ⟨lb, 0, none⟩ ∧ l.length ≤ c ∧ w0.heap.size ≤ lb ∧ lb < w1.heap.size) ∧ (∀ i j, i ≤ j → t i ≤ t j) := by
  obtain ⟨t, ht1, ht2⟩ := h.apart
  by_cases hl : l = []
  · subst hl
    exact ⟨0, t, ⟨Wr.refl _ _, fun h => absurd rfl h, fun j x _ hx => by simp at hx, fun j x _ hx => by simp at hx⟩, fun h => absurd rfl h, ht1⟩
  rcases h.own.2 with ⟨e, h0⟩ | ⟨g, cap, cur, e, hb, hg, hn, hm, hs, htk⟩
  · exact absurd (List.eq_nil_of_length_eq_zero h0) hl
  cases e
  have hlt := (Array.getElem?_eq_some_iff.1 hg).1
  have hg2 := (hx1.block g hlt).trans hg
  refine ⟨g, t, ⟨Wr.refl _ _, fun _ => ⟨cur, hg2, hs⟩, fun j x _ hx o u hu => ?_, fun j x _ hx => ?_⟩, fun _ => ⟨rfl, hn, hb, hlt⟩, ht1⟩
  · have hf := rflat_at putC 23 putC_len l j o x hx (by have := (List.getElem?_eq_some_iff.1 hu).1; rwa [putC_len] at this)
    rw [hu, ← htk, List.getElem?_take] at hf
    split at hf
    · simpa [World.cell?, hg2] using hf
    · cases hf
  · exact ((((ht2 j x hx).lt).keep (fun b hb _ => ⟨hb.1.1, hb.1.2.1, hb.2, fun e => hb.1.2.2 (by rw [e]; rfl)⟩) (fun b _ hl2 => hx1.block b hl2)).rows)
theorem PJ.xt {w0 w1 w : World} {lb c : Nat} {l : List PutE} {t : Nat → Nat} {i : Nat} {wr wr' : World} (h : PJ w0 w1 w lb c l t i wr) (hx : Xt wr wr') : PJ w0 w1 w lb c l t i wr' :=
  ⟨h.fr.trans (Wr.of_xt hx), fun hl => (h.row hl).imp fun _ hc => ⟨rowX hx hc.1, hc.2⟩, fun j x hj hx' o u hu => hx.cellsIn _ _ _ (h.at_ j x hj hx' o u hu), fun j x hj hx' => (h.el j x hj hx').keep (fun _ hb _ => ⟨hb.1, hb.2.imp fun _ hc => rowX hx hc⟩) (fun b _ hl => hx.block b hl)⟩
/-- One put is written over. -/
theorem PJ.step {w0 w1 w : World} {lb c : Nat} {l : List PutE} {t : Nat → Nat} {i : Nat} {wr w3 : World} (h : PJ w0 w1 w lb c l t i wr) (ht : ∀ i j, i ≤ j → t i ≤ t j) (hl : l ≠ [] → w0.heap.size ≤ lb ∧ lb < w1.heap.size) (hlw : w1.heap.size ≤ w.heap.size) {x : PutE} (hx : l[i]? = some x)
    (h3 : OvW (fun b => ((t i ≤ b ∧ b < t (i + 1)) ∧ w0.heap.size ≤ b ∧ b < w1.heap.size ∧ b ≠ lb) ∧ ∃ cur : Array Value, wr.heap[b]? = some (Obj.cells cur 44 (0, 0))) wr w3) (vs : List Value) (hvs : vs.length = 23) : PJ w0 w1 w lb c l t (i + 1) (w3.setCells lb (i * 23) vs) := by
  have hne : l ≠ [] := fun e => by rw [e] at hx; simp at hx
  obtain ⟨cur, hc, hcs⟩ := h.row hne
  obtain ⟨hb1, hb2⟩ := hl hne
  have hw := h.fr.size
  have hc3 : w3.heap[lb]? = some (Obj.cells cur 84 (0, 0)) := (h3.block lb (by omega) (fun hb => hb.1.2.2.2 rfl)).trans hc
  refine ⟨⟨?_, ?_, ?_, ?_, fun b hb hn => ?_⟩, fun _ => ?_, fun j y hj hy o u hu => ?_, fun j y hj hy => ?_⟩
  · exact ((setCells_size lb vs (i * 23) w3).2.1).trans (h3.os.trans h.fr.os)
  · exact ((setCells_size lb vs (i * 23) w3).2.2.1).trans (h3.tape.trans h.fr.tape)
  · exact ((setCells_size lb vs (i * 23) w3).2.2.2).trans (h3.output.trans h.fr.output)
  · rw [(setCells_size lb vs (i * 23) w3).1]; exact Nat.le_trans hw h3.size
  · exact (setCells_far lb vs (i * 23) w3 b (fun e => hn ⟨by omega, by omega⟩)).trans ((h3.block b (by omega) (fun hb' => hn ⟨hb'.1.2.1, hb'.1.2.2.1⟩)).trans (h.fr.block b hb hn))
  · obtain ⟨cur', q1, q2⟩ := setCells_rowC lb vs (i * 23) w3 cur hc3
    exact ⟨cur', q1, q2.trans hcs⟩
  · have h1 : w3.rangeAt lb (j * 23) (putC y) := fun o u hu => (World.cell?_of_block (w := wr) (a := ⟨lb, j * 23 + o, none⟩) (h3.block lb (by omega) (fun hb => hb.1.2.2.2 rfl))).trans (h.at_ j y (by omega) hy o u hu)
    exact World.rangeAt_setCells_apart h1 lb (i * 23) vs (Or.inr (Or.inr (by rw [hvs]; omega))) o u hu
  · have hk : ∀ b, b ≠ lb → t j ≤ b → b < wr.heap.size → (w3.setCells lb (i * 23) vs).heap[b]? = wr.heap[b]? := fun b hb htj hlt => (setCells_far lb vs (i * 23) w3 b hb).trans (h3.block b hlt (fun hb' => by have := ht (i + 1) j hj; have := hb'.1.1.2; omega))
    exact (h.el j y (by omega) hy).keep (fun b hb hlt => ⟨hb.1, by rw [hk b hb.1.2.2.2 hb.1.1.1 hlt]; exact hb.2⟩) (fun b hb hlt => hk b hb.1.2.2.2 hb.1.1.1 hlt)
theorem rowP_there {w : World} {b o n : Nat} {cur : Array Value} {T : TypeId} (h : w.heap[b]? = some (Obj.cells cur T (0, 0))) (hs : o + n ≤ cur.size) : w.there b o n := fun j hj => by
  have hlt : o + j < cur.size := by omega
  simp [World.cell?, World.frozen?, h, hlt]
/-- Two lists told alike. -/
theorem puts_get {k : List PI} {l : List PutE} (he : pis k = l.map (fun x => (x.1, x.2.1))) {i : Nat} {x : PutE} (hx : l[i]? = some x) : ∃ y, k[i]? = some y ∧ y.a = x.1 ∧ y.c = x.2.1 := by
  have h1 : (pis k)[i]? = some (x.1, x.2.1) := by rw [he, List.getElem?_map, hx]; rfl
  obtain ⟨y, hy, e⟩ := pis_get' h1
  exact ⟨y, hy, (congrArg Prod.fst e).symm, (congrArg Prod.snd e).symm⟩
theorem rangeAt_drop {w : World} {b o d : Nat} {cs : List Value} (h : w.rangeAt b o cs) : w.rangeAt b (o + d) (cs.drop d) := fun j u hu => by
  rw [List.getElem?_drop] at hu
  have := h (d + j) u hu
  rwa [← Nat.add_assoc] at this
set_option maxRecDepth 100000 in
set_option maxHeartbeats 400000 in
theorem puts_any (w0 w1 w : World) (a : Option Addr) (c : Nat) (l : List PutE) (kv : Value) (k : List PI) (b0 : Nat) (h : PutsOwn w1 w0.heap.size (.slice a l.length c) l) (hx0 : Xt w0 w1) (hx1 : Xt w1 w) (hk : PutsG w b0 kv k) (hb : w1.heap.size ≤ b0)
    (hka : ∀ x ∈ k, ∃ n, ArgsIn w0 n (.slice x.p x.c.t.args.length x.cap) x.c.t.args) (he : pis k = l.map (fun x => (x.1, x.2.1))) (_hmany : l.length ≤ 1048576) :
    Calls Tryz.prog 30 #[.slice a l.length l.length, kv] w fun e w' => e = .returned (.bool true) ∧ Xt w0 w' := by
  have hkl : k.length = l.length := by have := congrArg List.length he; rwa [pis_len, List.length_map] at this
  obtain ⟨ka, kc, rfl, hkc, hkc2⟩ := hk.puts.shape
  obtain ⟨lb, t, hJ, hlb, ht⟩ := PJ.start h hx0 hx1
  have HJ := Lib.hid hJ
  have HT := Lib.hid ht
  have HLB := Lib.hid hlb
  have HK := Lib.hid hk
  have HKA := Lib.hid hka
  have HE := Lib.hid he
  have hlw : w1.heap.size ≤ w.heap.size := hx1.size
  have HXW : Hid (∀ V, Wr (fun b => w0.heap.size ≤ b ∧ b < w1.heap.size) w V → Xt w0 V) := Lib.hid fun V hV => by
    have h1 := hx0.trans hx1
    refine ⟨hV.os.trans h1.os, hV.tape.trans h1.tape, hV.output.trans h1.output, Nat.le_trans h1.size hV.size, fun b hb => (hV.block b (by have := h1.size; omega) (fun hq => by omega)).trans (h1.block b hb)⟩
  have hne : ((l.length : Int) != (k.length : Int)) = false := by simp [hkl]
  clear h hx0 hx1 hk hka he hJ hlb ht
  rw [hkl] at hkc hne ⊢
  go_enter Tryz.func30, Tryz.ntmps30
  go_wp2_with fail
  go_loopw [5] (fun s5 wr => ∃ i : Nat, i ≤ l.length ∧ s5 = .int .i64 i ∧ Hid (PJ w0 w1 w lb c l t i wr)) (fun s5 _ => l.length - (intOf s5).toNat)
  case atStart => exact ⟨0, Nat.zero_le _, rfl, HJ⟩
  case round =>
    clear HJ
    obtain ⟨i, hi, rfl, HJ⟩ := hrel
    by_cases hlt : i < l.length
    · have hki : (i : Int) < (l.length : Int) := by omega
      obtain ⟨x, hx⟩ : ∃ x, l[i]? = some x := ⟨l[i], List.getElem?_eq_getElem hlt⟩
      have hnil : l ≠ [] := fun e => by rw [e] at hx; simp at hx
      obtain ⟨y, hy, hya, hyc⟩ := puts_get HE.out hx
      obtain ⟨rfl, hlc, hlo, hhi⟩ := HLB.out hnil
      have HXV := Lib.hid (HXW.out wr HJ.out.fr)
      have hkr : PutsIn wr (.slice ka k.length kc) k := by
        have hP := HK.out
        have hr := HJ.out.fr
        refine ⟨?_, fun z hz => ⟨(hP.puts.args z hz).1, let ⟨n, hn⟩ := HKA.out z hz; ⟨n, hn.xt HXV.out⟩⟩⟩
        rcases hP.own.2 with ⟨e, h0⟩ | ⟨g, cap, cur, e, hbg, hg, _⟩
        · exact absurd h0 (by rw [hkl]; omega)
        · cases e
          obtain ⟨a', c', e', h1, h2, h3⟩ := hP.puts.sl
          cases e'
          refine ⟨_, _, rfl, h1, h2, fun hne => ?_⟩
          obtain ⟨b2, off2, e2, hc⟩ := h3 hne
          cases e2
          exact ⟨_, _, rfl, fun j z hz o u hu => (World.cell?_of_block (w := w) (a := ⟨g, 0 + j * 23 + o, none⟩) (hr.block g (Array.getElem?_eq_some_iff.1 hg).1 (fun hq => by omega))).trans (hc j z hz o u hu)⟩
      obtain ⟨kb, kq, rfl, q0, q1, q2, hok, m, hin⟩ := hkr.at hy
      have hkj : (i : Int) < (k.length : Int) := by omega
      obtain ⟨hsm, n, hn⟩ := HJ.out.el i x (Nat.le_refl _) hx
      have hat := HJ.out.at_ i x (Nat.le_refl _) hx
      obtain ⟨⟨xa, xb⟩, xc, xp⟩ := x
      obtain ⟨ya, yc, yp, ycap⟩ := y
      simp only at hya hyc hsm hn
      subst hya hyc
      have HHX := Lib.hid hx
      have HNO := Lib.hid hn
      have HSM := Lib.hid hsm
      have HAT : Hid (∀ V, Xt wr V → V.rangeAt lb (i * 23) (putC ((xa, xb), yc, xp))) := Lib.hid fun V hV o u hu => hV.cellsIn _ _ _ (hat o u hu)
      have HRY : Hid (∀ V, Xt wr V → V.rangeAt kb (kq + i * 23 + 2) ((inC1 ⟨(xa, xb), yc, yp, ycap⟩).drop 2)) := Lib.hid fun V hV j u hu => hV.cellsIn _ _ _ (q2 j u hu)
      have HF : Hid (∀ V, Xt wr V → V.cell? ⟨lb, i * 23, none⟩ = some (.int .i64 xa) ∧ V.cell? ⟨lb, i * 23 + 1, none⟩ = some (.int .i64 xb) ∧ V.cell? ⟨kb, kq + i * 23, none⟩ = some (.int .i64 xa) ∧ V.cell? ⟨kb, kq + i * 23 + 1, none⟩ = some (.int .i64 xb)) := Lib.hid fun V hV => ⟨HAT.out V hV 0 _ rfl, HAT.out V hV 1 _ rfl, hV.cellsIn _ _ _ q0, hV.cellsIn _ _ _ q1⟩
      have HXD : Hid (Xt wr wr.drew) := (Xt.refl wr).drew
      have HJU := Lib.hid (just_any (n + m) yc yc xp yp yc.t.args.length ycap wr.drew (ArgsIn.upQ (Nat.le_add_right _ _) (hn.args.xt HXD.out)) (ArgsIn.upQ (Nat.le_add_left _ _) (hin.xt HXD.out)))
      rw [show eqCB yc yc = true from (eqCB_iff _ _).2 rfl] at HJU
      have HNIL := Lib.hid hnil
      clear hx hy hkr q0 q1 q2 hok hin hsm hn hat hnil
      go_upto_region 6 with fail
      refine rg (fun V => Xt wr V) HXD.out fun hHeld => ?_
      refine tk HF.out 0 ?_
      refine tk HF.out 1 ?_
      refine tk HF.out 2 ?_
      refine tk HF.out 3 ?_
      refine tkH 4 (.agg (ceC (yc, xp)).toArray) ?_ ?_
      · intro V hSw; exact exec_load_mid 46 _ (by rfl) lb (i * 23 + 2) (by rfl) (ceC (yc, xp)) _ (rangeAt_drop (d := 2) (HAT.out V hSw)) Tryz.underlying46 rfl (by kernel_rfl)
      try simp only [Act.put, nm]
      refine tk HF.out 5 ?_
      refine tk HF.out 6 ?_
      refine tk HF.out 7 ?_
      refine tk HF.out 8 ?_
      refine tkH 9 (.agg ((inC1 ⟨(xa, xb), yc, yp, ycap⟩).drop 2).toArray) ?_ ?_
      · intro V hSw; exact exec_load_mid 46 _ (by rfl) kb (kq + i * 23 + 2) (by rfl) ((inC1 ⟨(xa, xb), yc, yp, ycap⟩).drop 2) _ (HRY.out V hSw) Tryz.underlying46 rfl (by kernel_rfl)
      try simp only [Act.put, nm]
      refine rdH 10 fun K hK => ?_
      go_simp
      refine (HJU.out).mono ?_
      rintro e w2 ⟨rfl, hg2⟩
      have HX2 := Lib.hid (HXD.out.trans hg2.xt)
      refine ko hK HX2.out fun hHe => ?_
      clear hK K hg2
      refine tk HF.out 11 ?_
      refine wpAnyH_done (by kernel_rfl) ?_ _
      clear hHe hHeld HJU
      go_wp2_with fail
      have HX2d := Lib.hid HX2.out.drew
      refine rg (fun V => Xt wr V) HX2d.out fun hHeld => ?_
      refine tk HF.out 0 ?_
      refine tk HF.out 1 ?_
      refine tk HF.out 2 ?_
      refine tk HF.out 3 ?_
      refine tk HF.out 4 ?_
      refine tk HF.out 5 ?_
      refine tk HF.out 6 ?_
      refine tk HF.out 7 ?_
      refine tk HF.out 8 ?_
      refine tk HF.out 9 ?_
      refine tk HF.out 10 ?_
      refine tk HF.out 11 ?_
      refine tk HF.out 12 ?_
      refine tk HF.out 13 ?_
      refine tk HF.out 14 ?_
      refine wpAnyH_done (by kernel_rfl) ?_ _
      clear hHeld
      have HJD := Lib.hid (HJ.out.xt HX2d.out)
      obtain ⟨_, nD, hnD⟩ := HJD.out.el i _ (Nat.le_refl _) HHX.out
      have HOV := Lib.hid (over_any nD (fun b => ((t i ≤ b ∧ b < t (i + 1)) ∧ w0.heap.size ≤ b ∧ b < w1.heap.size ∧ b ≠ lb) ∧ ∃ cur : Array Value, w2.drew.heap[b]? = some (Obj.cells cur 44 (0, 0))) yc.t xp yc.t.args.length yc.t.args.length w2.drew (fun b hb => let ⟨_, hc⟩ := hb.2; (Array.getElem?_eq_some_iff.1 hc).1) (OwnIn.ov (smallT_args HSM.out) hnD))
      clear hnD
      have HRN : Hid (w2.drew.rangeAt lb (i * 23 + 2 + 6) (nodeC yc.t (.slice xp yc.t.args.length yc.t.args.length))) := Lib.hid (rangeAt_drop (d := 6) (rangeAt_drop (d := 2) (HAT.out _ HX2d.out)))
      go_upto_region 10 with (first
        | (refine wpList_load_mid (P := Tryz.prog) rfl 44 _ rfl lb (i * 23 + 2 + 6) rfl (nodeC yc.t (.slice xp yc.t.args.length yc.t.args.length)) _ HRN.out Tryz.underlying44 rfl (by kernel_rfl) ?_; clear HRN)
        | (go_at_call 20; refine HOV.out.mono ?_; rintro e w3 ⟨rfl, hw3⟩; have HW3 := Lib.hid hw3; obtain ⟨cur, hcur, hcs⟩ := HJD.out.row HNIL.out; have hthere : w3.there lb (i * 23) 23 := rowP_there ((hw3.block lb (Array.getElem?_eq_some_iff.1 hcur).1 (fun hq => hq.1.2.2.2 rfl)).trans hcur) (by rw [hcs]; omega); clear hw3 hcur hcs))
      refine wp_region_lit ?_
      iterate 4
        refine wpList_step (fun K hK => ?_)
        go_simp
        refine hK _ _ ?_
        clear hK K
      refine wpList_store_mid (P := Tryz.prog) rfl 84 _ _ rfl lb (i * 23) #[.int .i64 0, .int .i64 0, .int .i64 0, .int .i64 0, .float .f64 0, .string ⟨#[]⟩, .bool false, .int .i64 0, .int .i64 0, .int .i64 0, .float .f64 0, .string ⟨#[]⟩, .bool false, .int .i64 0, .int .i64 0, .int .i64 0, .bool false, .bool false, .int .i64 0, .int .i64 0, .bool false, .bool false, .slice none 0 0] rfl rfl hthere (by kernel_rfl) (by simp [Value.oneCell']) ?_
      have HJN := Lib.hid (HJD.out.step HT.out (fun _ => ⟨hlo, hhi⟩) hlw HHX.out HW3.out #[.int .i64 0, .int .i64 0, .int .i64 0, .int .i64 0, .float .f64 0, .string ⟨#[]⟩, .bool false, .int .i64 0, .int .i64 0, .int .i64 0, .float .f64 0, .string ⟨#[]⟩, .bool false, .int .i64 0, .int .i64 0, .int .i64 0, .bool false, .bool false, .int .i64 0, .int .i64 0, .bool false, .bool false, .slice none 0 0].toList rfl)
      go_wp2_with fail
      go_roundw
      case rel => exact ⟨i + 1, by omega, by go_num, HJN⟩
      case measure => simp [intOf]; omega
    · have hki : ¬ (i : Int) < (l.length : Int) := by omega
      go_wp2_with fail
      go_ret
      exact ⟨rfl, HXW.out _ HJ.out.fr⟩
end
end Go.Proofs.YtideclfpbpjebaaGreatDoor
