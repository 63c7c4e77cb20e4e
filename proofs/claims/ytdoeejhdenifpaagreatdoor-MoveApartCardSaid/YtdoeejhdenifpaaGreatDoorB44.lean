import Derived.Test.YtdoeejhdenifpaaGreatDoorB42
import Derived.Deep.RegionHeld3
set_option maxRecDepth 100000
set_option maxHeartbeats 16000000
namespace Go.Proofs.YtdoeejhdenifpaaGreatDoor
section
open Go.RowKit Go.Sort Go.Maps Go.Shelf Go.MapKept
attribute [local go_sem] Oper.semAt_some
def BothR (w : World) (e : Ending) (w' : World) : Prop := ∃ gb mb M rb l1, e = .returned (.tuple #[v_ gb, v_ rb]) /\ Pair w' gb mb M rb l1 /\ Xt w w' /\ w.heap.size <= gb /\ w.heap.size <= mb /\ w.heap.size <= rb
theorem jdH (l : List PI) (lv : Value) (w : World) (hT : Tabs w) (hl : PutsIn w lv l) (hs : ∀ x ∈ l, yQE x.c.t) :
    Calls Tryz.prog 22 #[lv] w (BothR w) := by
 obtain ⟨la, lc, rfl, hlc, hlc2⟩ := hl.shape;have HP := h_ hl;have HT := h_ hT;have HSM := h_ hs;clear hT hl hs;go_enter Tryz.func22, Tryz.ntmps22;go_upto_region 3 with (first
  | (go_at_call 35; refine (zPb _).mono ?_; rintro e w1 ⟨rfl, hG1, hg1⟩; have HG1 := h_ hG1; have HX1 := h_ hg1.xt; clear hG1 hg1))
 obtain ⟨MB, hMB⟩ := e_ w.heap.size;have hMBe := hMB;rw [hMB] at HG1;simp only [hMB];obtain ⟨RB, hRB⟩ := e_ w1.heap.size;obtain ⟨w2, hw2⟩ := e_ (w1.alloc (.cells #[.slice none 0 0] 109));simp only [hw2, hRB];have HX2 : Hid (Xt w1 w2) := (by unfold Hid; rw [<- hw2]; exact (Xt.refl _).alloc _);have HD2 := h_ (DG.fresh hw2);rw [hRB] at HD2;have hlt := HG1.out.lt;have HPR : Hid (Pair w2 (MB + 1) MB [] RB []) := h_ ⟨HG1.out.xt HX2.out, HD2.out, rfl, GOk.nil, by omega, by omega⟩;have hRM : MB <= RB := (by omega);have HSZ : Hid (w.heap.size = MB) := hMBe;clear hw2 hRB hMB hMBe hlt;go_wp2_with fail
 go_loopw [6] (fun s6 wr => ∃ (i : Nat) (M : GM) (l1 : List PI), i <= l.length /\ s6 = .int .i64 i /\ Hid (Pair wr (MB + 1) MB M RB l1) /\ Hid (Xt w wr)) (fun s6 _ => l.length - (intOf s6).toNat)
 case atStart => exact ⟨0, [], [], Nat.zero_le _, rfl, HPR, HX1.out.trans HX2.out⟩
 case round =>
  obtain ⟨i, M, l1, hi, rfl, HR, HX⟩ := hrel;by_cases hlt : i < l.length
  . have hki : (i : Int) < (l.length : Int) := (by omega);obtain ⟨x, hx⟩ : ∃ x, l[i]? = some x := ⟨l[i], j_ hlt⟩;obtain ⟨b, off, rfl, q0, q1, q2, hok, n, hin⟩ := HP.out.at hx;have HOK := h_ hok;have HIN := h_ hin;have HSX := h_ (HSM.out x (m_ hx));have HF : Hid (∀ V, Xt w V -> c_ V b (off + i * 23) x.a.1 /\ c_ V b (off + i * 23 + 1) x.a.2) := h_ fun V hV => ⟨hV.cellsIn _ _ _ q0, hV.cellsIn _ _ _ q1⟩;have HFR : Hid (∀ V, Xt w V -> V.rangeAt b (off + i * 23 + 2) ((inC1 x).drop 2)) := h_ fun V hV j u hu => hV.cellsIn _ _ _ (q2 j u hu)
    have HXD : Hid (Xt w wr.drew) := HX.out.drew;have HRD := h_ (HR.out.xt (Xt.refl wr).drew);have HPU := h_ (zbE n (MB + 1) MB M x.a x.c x.p x.cap wr.drew HRD.out.g HOK.out (HT.out.xt HXD.out) HSX.out (HIN.out.xt HXD.out));unfold PutR at HPU;obtain ⟨ec, hec⟩ := e_ (jJz (pis l1) x.a x.c);rw [HRD.out.code, hec] at HPU;have HEC := h_ hec;clear hx q0 q1 q2 hok hin hec;go_upto_region 6 with fail;refine wp_region_held_drew (S := fun V => Xt w V) (by kernel_rfl) HXD.out (fun hHeld => ?_);refine tk HF.out 0 ?_;refine tk HF.out 1 ?_;refine tk HF.out 2 ?_;refine tk HF.out 3 ?_;refine tk HF.out 4 ?_;refine tk HF.out 5 ?_;refine tk HF.out 6 ?_;refine tk HF.out 7 ?_
    refine tk HF.out 8 ?_;refine tk HF.out 9 ?_;refine tkH 10 (.agg ((inC1 x).drop 2).toArray) ?_ ?_
    . intro V hSw; exact ySb 51 _ (by rfl) b (off + i * 23 + 2) (by rfl) ((inC1 x).drop 2) _ (HFR.out V hSw) Tryz.underlying51 rfl (by kernel_rfl)
    try simp only [Act.put, nm]
    refine tk HF.out 12 ?_;refine tk HF.out 13 ?_;refine tk HF.out 14 ?_;refine tk HF.out 15 ?_;refine tk HF.out 16 ?_;refine tk HF.out 17 ?_;refine tk HF.out 18 ?_;refine tk HF.out 19 ?_;refine tk HF.out 20 ?_;refine tk HF.out 21 ?_;refine tkH 22 (.agg ((inC1 x).drop 2).toArray) ?_ ?_
    . intro V hSw; exact ySb 51 _ (by rfl) b (off + i * 23 + 2) (by rfl) ((inC1 x).drop 2) _ (HFR.out V hSw) Tryz.underlying51 rfl (by kernel_rfl)
    try simp only [Act.put, nm]
    refine rdH 11 (fun K hK => ?_);go_simp;refine (HPU.out).mono ?_;rintro e w5 ⟨ax, rfl, hG5, hg5⟩;have HX5 := h_ (HXD.out.grownB hg5 (fun q hq => by cases hq; have := HSZ.out; omega));have HD5 := h_ (HRD.out.r.byMap HRD.out.g hg5 HRD.out.n1);have HG5 := h_ hG5;have HPV := h_ (ze5 n RB l1 x.a x.c x.p x.cap w5 HD5.out HOK.out HSX.out (HIN.out.xt HX5.out));unfold ykf at HPV;rw [HEC.out] at HPV;refine ko hK HX5.out fun hHe => ?_;clear hK K hg5 hG5;refine rdH 23 (fun K hK => ?_);go_simp;refine (HPV.out).mono ?_;rintro e w6 ⟨l6, rfl, hD6, hp6, hg6⟩;have HX6 := h_ (HX5.out.grownB hg6 (fun q hq => by cases hq; have := HSZ.out; omega))
    have HR6 := h_ (HRD.out.put HOK.out ax rfl HG5.out hg6 HD5.out hD6 hp6);refine ko hK HX6.out fun hHe2 => ?_;clear hK K hD6 hp6 hg6;refine tk HF.out 24 ?_;refine z_ (by kernel_rfl) ?_ _;go_wp2_with fail;go_roundw
    case rel => exact ⟨i + 1, _, l6, by omega, by go_num, HR6, HX6⟩
    case measure => simp [intOf]; omega
  . have hki : ¬ (i : Int) < (l.length : Int) := (by omega);go_wp2_with fail
    go_ret2
    unfold BothR;have hsz := HSZ.out;exact ⟨_, _, M, _, l1, rfl, HR.out, HX.out, by omega, by omega, by omega⟩
end
end Go.Proofs.YtdoeejhdenifpaaGreatDoor
