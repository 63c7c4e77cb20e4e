/- quadrillelaw22.MovePlays returns true for every input, and what is handed in reads afterwards as it read before; its row is tied to the program's text, which lays the two listed variables; no other condition. -/
import Derived.Test.YtdoeejhdenifpaaGreatDoorB45
import Derived.Test.YtdoeejhdenifpaaGreatDoorB44
import Derived.OpenShut
set_option maxRecDepth 100000
set_option maxHeartbeats 16000000
namespace Go.Proofs.YtdoeejhdenifpaaGreatDoor
section
open Go.RowKit Go.Sort Go.Maps Go.Shelf Go.MapKept
attribute [local go_sem] Oper.semAt_some
structure StT where
 k : Int
 a : Int
 n : Int
 f : ArT
 g : Ad
def stC (x : StT) : List Value := [.int .i64 x.k, .int .i64 x.a, .int .i64 x.n, .int .i64 x.f.a, .int .i64 x.f.b, .int .i64 x.f.c, .int .i64 x.f.d, .int .i64 x.g.1, .int .i64 x.g.2]
theorem y4x {w : World} {a : Option Addr} {m cap i : Nat} {l : List StT} {x : StT} (h : SlOf w stC 9 (.slice a m cap) l) (hx : l[i]? = some x) :
    ∃ b off, a = some ⟨b, off, none⟩ /\ ∀ V, Xt w V -> c_ V b (off + i * 9) x.k /\ c_ V b (off + i * 9 + 1) x.a /\ c_ V b (off + i * 9 + 2) x.n /\ c_ V b (off + i * 9 + 3) x.f.a /\ c_ V b (off + i * 9 + 4) x.f.b /\ c_ V b (off + i * 9 + 5) x.f.c /\ c_ V b (off + i * 9 + 6) x.f.d /\ c_ V b (off + i * 9 + 7) x.g.1 /\ c_ V b (off + i * 9 + 8) x.g.2 := by
 obtain ⟨a', cap', e, h1, h2, h3⟩ := h;cases e;obtain ⟨b, off, rfl, hc⟩ := h3 (by intro e; subst e; simp at hx);refine ⟨b, off, rfl, fun V hV => ?_⟩;have k : ∀ j v, (stC x)[j]? = some v -> V.cell? ⟨b, off + i * 9 + j, none⟩ = some v := fun j v hv => hV.cellsIn _ _ _ (hc i x hx j v hv);exact ⟨k 0 _ rfl, k 1 _ rfl, k 2 _ rfl, k 3 _ rfl, k 4 _ rfl, k 5 _ rfl, k 6 _ rfl, k 7 _ rfl, k 8 _ rfl⟩
def DoesU (w : World) (e : Ending) (w' : World) : Prop := ∃ p q, e = .returned (.tuple #[.pointer p, .pointer q, .bool true]) /\ Xt w w' /\ ((p = none /\ q = none) \/ ∃ go mo Mo ob lo, p = some ⟨go, 0, none⟩ /\ q = some ⟨ob, 0, none⟩ /\ Pair w' go mo Mo ob lo /\ w.heap.size <= mo /\ w.heap.size <= ob)
theorem DoesR.u {o : Ans} {w w' : World} {e : Ending} (h : DoesR o w e w') : DoesU w e w' := by
 obtain ⟨hx, ⟨_, rfl⟩ | ⟨go, mo, Mo, ob, lo, rfl, h1, h2, h3, _⟩⟩ := h
 . exact ⟨none, none, rfl, hx, .inl ⟨rfl, rfl⟩⟩
 . exact ⟨_, _, rfl, hx, .inr ⟨go, mo, Mo, ob, lo, rfl, rfl, h1, h2, h3⟩⟩
theorem jTh (l : List PI) (lv : Value) (s : List StT) (sv : Value) (w : World) (hT : Tabs w) (hl : PutsIn w lv l) (hs : ∀ x ∈ l, yQE x.c.t) (hst : SlOf w stC 9 sv s) (hsk : ∀ x ∈ s, I64 x.k) :
    Calls Tryz.prog 4 #[lv, sv] w fun e w' => e = .returned (.bool true) /\ Xt w w' := by
 obtain ⟨sa, sc, rfl, hsc, hsc2, _⟩ := id hst;have HT := h_ hT;have HS := h_ hst;have HSK := h_ hsk;have HB := h_ (jdH l lv w hT hl hs);clear hT hl hs hst hsk;go_enter Tryz.func4, Tryz.ntmps4;go_wp2_with (first
  | (go_at_call 22; refine (HB.out).mono ?_; rintro e w1 ⟨gb, mb, M, rb, l1, rfl, hp, hx1, _, _, _⟩; have HP := h_ hp; have HX1 := h_ hx1; clear hp hx1)
  | (go_at_call 9; refine (ys3 _ (HT.out.xt HX1.out)).mono ?_; rintro e w2 ⟨rfl, hx2⟩; have HX2 := h_ (HX1.out.trans hx2); have HP2 := h_ (HP.out.xt hx2); clear hx2))
 clear HP HX1 HB
 go_loopw [5, 6, 7] (fun s5 s6 s7 wr => ∃ (i : Nat) (gb mb : Nat) (M : GM) (rb : Nat) (l1 : List PI), i <= s.length /\ s5 = v_ gb /\ s6 = v_ rb /\ s7 = .int .i64 i /\ Hid (Pair wr gb mb M rb l1) /\ Hid (Xt w wr)) (fun _ _ s7 _ => s.length - (intOf s7).toNat)
 case atStart => exact ⟨0, gb, mb, M, rb, l1, Nat.zero_le _, rfl, rfl, rfl, HP2, HX2⟩
 case round =>
  clear HP2 HX2;obtain ⟨i, gc, mc, N, rc, l2, hi, rfl, rfl, rfl, HR, HX⟩ := hrel;by_cases hlt : i < s.length
  . have hki : (i : Int) < (s.length : Int) := (by omega);obtain ⟨x, hx⟩ : ∃ x, s[i]? = some x := ⟨s[i], j_ hlt⟩;obtain ⟨b, off, rfl, hc⟩ := y4x HS.out hx;have HC := h_ hc;have HK := h_ (HSK.out x (m_ hx));obtain ⟨u0, u1, u2, u3, u4, u5, u6, u7, u8⟩ := hc _ HX.out;have HC1 := h_ (fun V => yNl x.k x.a x.n x.f x.g gc mc N rc l2 V HK.out);have HC2 := h_ (fun V => jJe x.k x.a x.n x.f x.g V HK.out);clear hx hc;go_upto_region 13 with (first
     | (go_at_call 23; have h1 := HC1; clear HC1; refine (h1.out _ (HT.out.xt HX.out) HR.out).mono ?_; clear h1; rintro e w3 h3; obtain ⟨p, q, rfl, hx3, h3⟩ := h3.u; have HD := h_ h3; have HX3 := h_ (HX.out.trans hx3); have HR3 := h_ (HR.out.xt hx3); clear hx3 h3 u0 u1 u2 u3 u4 u5 u6 u7 u8; obtain ⟨u0, u1, u2, u3, u4, u5, u6, u7, u8⟩ := HC.out _ HX3.out)
     | (go_at_call 24; refine (jUr _ _ _ _ _ _ HR3.out).mono ?_; rintro e w4 ⟨rfl, hx4⟩; have HX34 := h_ hx4; have HX4 := h_ (HX3.out.trans hx4); have HR4 := h_ (HR3.out.xt hx4); clear hx4 u0 u1 u2 u3 u4 u5 u6 u7 u8; obtain ⟨u0, u1, u2, u3, u4, u5, u6, u7, u8⟩ := HC.out _ HX4.out)
     | (go_at_call 23; refine (HC2.out _).mono ?_; rintro e w5 ⟨rfl, hx5⟩; have HX35 := h_ (HX34.out.trans hx5); have HX5 := h_ (HX4.out.trans hx5); have HR5 := h_ (HR4.out.xt hx5); clear hx5))
    rcases HD.out with ⟨rfl, rfl⟩ | ⟨go, mo, Mo, ob, lo, rfl, rfl, hp, _, _⟩
    . clear HD;go_wp2_with fail;go_roundw
      case rel => exact ⟨i + 1, gc, mc, N, rc, l2, by omega, rfl, rfl, by go_num, HR5, HX5⟩
      case measure => simp [intOf]; omega
    . have HPN := h_ (hp.xt HX35.out);clear HD hp;go_wp2_with fail;go_roundw
      case rel => exact ⟨i + 1, go, mo, Mo, ob, lo, by omega, rfl, rfl, by go_num, HPN, HX5⟩
      case measure => simp [intOf]; omega
  . have hki : ¬ (i : Int) < (s.length : Int) := (by omega);go_wp2_with (first
     | (go_at_call 24; refine (jUr _ _ _ _ _ _ HR.out).mono ?_; rintro e w4 ⟨rfl, hx4⟩; have HX4 := h_ (HX.out.trans hx4); clear hx4))
    refine p_ (v := .bool true) ?_ rfl ⟨rfl, HX4.out⟩;first | rfl | (simp [results, Tryz.f4])
end
section
open Go.ChangeShapes Go.WideShapes Go.ChangeAt Go.RowKit Go.Joins Go.Deep Go.Shelf
section
variable {H : Type} {enc : TypeId × Value -> H} {W : World} {base : Nat} {spare : Nat -> Bool} {held : Bool}
theorem jLs {n : Nat} {v : Value} {x : DataW H × List MemPlace} (h : DataW.trod enc Tryz.prog W base spare held n 60 [v] = some x) : ∃ l : List StT, SlOf W stC 9 v l /\ ∀ x ∈ l, I64 x.k :=
 yqS Tryz.underlying60 Tryz.cellsStep (by omega) (fun _ => rfl) (fun m cs y h => by
  obtain ⟨kk, aa, nn, f, g, e, _, h1, _⟩ := yyB h;exact ⟨⟨kk, aa, nn, f, g⟩, e, h1⟩) h
end
theorem jI1 (os : Os) (started : os.Started) (H : Type) (enc : TypeId × Value -> H) :
    ReturnsInHanded {} Tryz.checked os 4 .any (fun w args => (Rows.movePlaysSpec.pre enc Tryz.prog Tryz.f4 [] false w args /\ laidMetH Tryz.prog ygn w) /\ sizedMet enc Tryz.prog Tryz.f4 (OpenSpec.ofChange Rows.movePlaysSpec) false w args)
     (Rows.movePlaysSpec.post enc Tryz.prog Tryz.f4 false true false false) := by
 refine returnsInHanded_of_change_and (C := Tryz.checked) (X := fun w _ => laidMetH Tryz.prog ygn w) (fun _ _ _ hh h => h.of_heap hh) Tryz.own' started (by kernel_rfl) Tryz.func4
  (ChangeSpec.witness_at (enc := enc) (C := Tryz.checked) (os := os) (X := fun w _ => laidMetH Tryz.prog ygn w) false (ybg os) #[.slice none 0 0, .slice none 0 0] 8 rfl (by kernel_rfl) (by kernel_rfl) (by kernel_rfl) (by kernel_rfl) (by kernel_rfl) (z2N os _)) ?_
 intro W base args ds gs before hval0 hW _ hZ hL _;have hval : ∀ (j : Nat) t v, Tryz.f4.params[j]? = some t -> args[j]? = some v -> Value.okWide Tryz.prog W .any base t v := hval0;have hW' := hW;obtain ⟨p, q, hA0, hV, rfl, _, _⟩ := hW;have hA : DataW.TrodAll enc Tryz.prog W 0 (fun _ => true) true Tryz.f4.params.toList args.toList ds p := hA0;rw [Tryz.params4] at hA hval;obtain ⟨v1, v2, d1, d2, p1, p2, rfl, rfl, rfl, h1, h2⟩ := trodAll_two hA;obtain ⟨rfl, rfl⟩ := trodVars_none hV;have hz : ∀ q ∈ d1.weights Tryz.prog 22, q <= reachBytes := by
  intro q hq;have := List.all_eq_true.1 hZ q (by
   rw [Tryz.params4];simp only [List.cons_append, List.nil_append, DataW.weightsEach, List.mem_append];exact Or.inl hq)
  simpa using this
 obtain ⟨l, hl, hls⟩ : ∃ l, PutsIn W v1 l /\ ∀ x ∈ l, yQE x.c.t := by
  obtain ⟨a0, n0, c0, rfl⟩ := okWide_slice Tryz.underlying22 (hval 0 22 v1 rfl rfl);obtain ⟨f, hf⟩ := h1;exact jc0 (by simpa [Value.cells] using hf) hz
 obtain ⟨s, hst, hsk⟩ : ∃ s : List StT, SlOf W stC 9 v2 s /\ ∀ x ∈ s, I64 x.k := by
  obtain ⟨a0, n0, c0, rfl⟩ := okWide_slice Tryz.underlying60 (hval 1 60 v2 rfl rfl);obtain ⟨f, hf⟩ := h2;exact jLs (by simpa [Value.cells] using hf)
 have hT : Tabs W := tabs_of hL;clear hA0 hval0 hval hA hz hZ;simp only [List.append_nil] at hW';have hlt : ∀ x ∈ p1 ++ p2, x.block < W.heap.size := fun x hx => by simpa using hW'.lt x (by simpa using hx)
 have harg1 : ∀ W', Xt W W' -> DataW.Trod enc Tryz.prog W' 0 (fun b => decide (b < W.heap.size)) true 22 _ d1 p1 := fun W' hx =>
  Below.trod Tryz.laidOut' (by kernel_rfl) (of_decide_eq_true (by kernel_rfl)) h1 hx (fun x hx => hlt x (by simp [hx]))
 have harg2 : ∀ W', Xt W W' -> DataW.Trod enc Tryz.prog W' 0 (fun b => decide (b < W.heap.size)) true 60 _ d2 p2 := fun W' hx =>
  Below.trod Tryz.laidOut' (by kernel_rfl) (of_decide_eq_true (by kernel_rfl)) h2 hx (fun x hx => hlt x (by simp [hx]))
 refine (jTh l v1 s v2 W hT hl hls hst hsk).mono fun e W' ⟨he, hx⟩ => ?_;subst he;exact ⟨_, rfl, _, _, _, [], _, [], hW', trodAll_mk1 (shut_bool Tryz.underlying4 _), trodAll_cons_mk (harg1 W' hx) (trodAll_cons_mk (harg2 W' hx) trodAll_mk0), rfl, Below.frame hx _, fun h => by cases h⟩
theorem zMO : Rows.MovePlaysSaid :=
 OpenClaim.holds_of_wide 4 Tryz.f4 rfl rfl rfl rfl rfl rfl rfl ⟨rfl, rfl, rfl, rfl, rfl⟩ rfl rfl rfl rfl rfl (by kernel_rfl) Tryz.func4 (by kernel_rfl)
  (of_decide_eq_true (by kernel_rfl)) (by unfold Func.isWrapper; rw [if_neg (of_decide_eq_false (by kernel_rfl))]; exact ⟨rfl, rfl⟩)
  (fun os started H enc _ => jI1 os started H enc)
theorem movePlays_holds : Rows.MovePlaysCardSaid :=
 Claim7.holds_tied_plain_at .later [] [.data, .pinned] true _ true
  zMO (fun _ h => by cases h) (by kernel_rfl) (fun _ h => by cases h) movePlays_row_tie rfl ⟨rfl, rfl⟩ (by kernel_rfl) rfl
  (fun f fn hf hfn => by
   obtain rfl : f = 4 := i_ ((show Tryz.prog.funcNamed "quadrille/quadrillelaw22.MovePlays" = some 4 by kernel_rfl).symm.trans hf) |>.symm
   obtain rfl : fn = Tryz.f4 := (i_ (Tryz.func4.symm.trans hfn)).symm;exact ⟨by kernel_rfl, fun j t ht => by
    rw [Tryz.params4] at ht;have h3 : t = 22 \/ t = 60 := by
     rcases j with _ | _ | j
     . exact Or.inl (by simpa using ht.symm)
     . exact Or.inr (by simpa using ht.symm)
     . simp at ht
    rcases h3 with rfl | rfl
    . exact (show Tryz.prog.wantsStandIn 22 = false by kernel_rfl)
    . exact (show Tryz.prog.wantsStandIn 60 = false by kernel_rfl)⟩)
  (by kernel_rfl)
#print axioms movePlays_holds
end
end Go.Proofs.YtdoeejhdenifpaaGreatDoor
