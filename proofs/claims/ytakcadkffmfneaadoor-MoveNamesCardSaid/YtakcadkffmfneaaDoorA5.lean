import Derived.Test.YtakcadkffmfneaaDoorProg
import Derived.Shelf.SlSortCmp.WholeK
import Derived.Shelf.SlicesE.Clone
import Derived.Test.YtakcadkffmfneaaDoorA1
import Derived.Shelf.SlSortCmp.NoneTotal
namespace Go.Proofs.YtakcadkffmfneaaDoor
open Go.Shelf Go.RowKit Go.Lib Go.Sort

def Tryd.sortAd_ren : Go.Shelf.Ren := ⟨fun | 6 => 52 | 15 => 63 | 14 => 62 | 28 => 78 | 29 => 79 | 20 => 70 | 21 => 71 | 22 => 72 | 23 => 73 | 24 => 74 | 25 => 75 | 26 => 76 | 27 => 77 | 46 => 83 | 47 => 84 | 48 => 85 | 49 => 86 | 50 => 87 | 57 => 88 | n => n, fun | 22 => 84 | 24 => 28 | 25 => 87 | 3 => 3 | 39 => 111 | 0 => 0 | 53 => 133 | 55 => 90 | 4 => 4 | 46 => 127 | 45 => 126 | 50 => 96 | 5 => 5 | 9 => 9 | 66 => 136 | 70 => 140 | 76 => 142 | 77 => 93 | n => n, fun | n => n⟩
theorem Tryd.sortAd : Go.Proofs.SlLaysF0.n6 Tryd.prog Tryd.sortAd_ren := {
  mixed := by kernel_rfl
  f6 := ⟨Tryd.f52.name, by decide, Tryd.func52.trans (congrArg some (by kernel_rfl))⟩
  f14 := ⟨Tryd.f62.name, by decide, Tryd.func62.trans (congrArg some (by kernel_rfl))⟩
  f15 := Tryd.func63.trans (congrArg some (by kernel_rfl))
  f20 := ⟨Tryd.f70.name, by decide, Tryd.func70.trans (congrArg some (by kernel_rfl))⟩
  f21 := ⟨Tryd.f71.name, by decide, Tryd.func71.trans (congrArg some (by kernel_rfl))⟩
  f22 := ⟨Tryd.f72.name, by decide, Tryd.func72.trans (congrArg some (by kernel_rfl))⟩
  f23 := ⟨Tryd.f73.name, by decide, Tryd.func73.trans (congrArg some (by kernel_rfl))⟩
  f24 := ⟨Tryd.f74.name, by decide, Tryd.func74.trans (congrArg some (by kernel_rfl))⟩
  f25 := ⟨Tryd.f75.name, by decide, Tryd.func75.trans (congrArg some (by kernel_rfl))⟩
  f26 := ⟨Tryd.f76.name, by decide, Tryd.func76.trans (congrArg some (by kernel_rfl))⟩
  f27 := ⟨Tryd.f77.name, by decide, Tryd.func77.trans (congrArg some (by kernel_rfl))⟩
  f28 := Tryd.func78.trans (congrArg some (by kernel_rfl))
  f29 := Tryd.func79.trans (congrArg some (by kernel_rfl))
  f46 := ⟨Tryd.f83.name, by decide, Tryd.func83.trans (congrArg some (by kernel_rfl))⟩
  f47 := Tryd.func84.trans (congrArg some (by kernel_rfl))
  f48 := Tryd.func85.trans (congrArg some (by kernel_rfl))
  f49 := ⟨Tryd.f86.name, by decide, Tryd.func86.trans (congrArg some (by kernel_rfl))⟩
  f50 := ⟨Tryd.f87.name, by decide, Tryd.func87.trans (congrArg some (by kernel_rfl))⟩
  f57 := ⟨Tryd.f88.name, by decide, Tryd.func88.trans (congrArg some (by kernel_rfl))⟩
  t0 := Tryd.underlying0
  a0 := Tryd.isAgg0
  z0 := Tryd.sizeOf0
  v0 := Tryd.zeroValue0
  t3 := Tryd.underlying3
  a3 := Tryd.isAgg3
  z3 := Tryd.sizeOf3
  v3 := Tryd.zeroValue3
  t4 := Tryd.underlying4
  a4 := Tryd.isAgg4
  z4 := Tryd.sizeOf4
  v4 := Tryd.zeroValue4
  t5 := Tryd.underlying5
  a5 := Tryd.isAgg5
  z5 := Tryd.sizeOf5
  v5 := Tryd.zeroValue5
  t9 := Tryd.underlying9
  a9 := Tryd.isAgg9
  z9 := Tryd.sizeOf9
  v9 := Tryd.zeroValue9
  t22 := Tryd.underlying84
  a22 := Tryd.isAgg84
  z22 := Tryd.sizeOf84
  v22 := Tryd.zeroValue84
  t25 := Tryd.underlying87
  a25 := Tryd.isAgg87
  z25 := Tryd.sizeOf87
  v25 := Tryd.zeroValue87
  t39 := Tryd.underlying111
  a39 := Tryd.isAgg111
  z39 := Tryd.sizeOf111
  v39 := Tryd.zeroValue111
  t45 := Tryd.underlying126
  a45 := Tryd.isAgg126
  z45 := Tryd.sizeOf126
  v45 := Tryd.zeroValue126
  t46 := Tryd.underlying127
  a46 := Tryd.isAgg127
  z46 := Tryd.sizeOf127
  v46 := Tryd.zeroValue127
  t50 := Tryd.underlying96
  a50 := Tryd.isAgg96
  z50 := Tryd.sizeOf96
  v50 := Tryd.zeroValue96
  t53 := Tryd.underlying133
  a53 := Tryd.isAgg133
  z53 := Tryd.sizeOf133
  v53 := Tryd.zeroValue133
  t55 := Tryd.underlying90
  a55 := Tryd.isAgg90
  z55 := Tryd.sizeOf90
  v55 := Tryd.zeroValue90
  t66 := Tryd.underlying136
  a66 := Tryd.isAgg136
  z66 := Tryd.sizeOf136
  v66 := Tryd.zeroValue136
  t70 := Tryd.underlying140
  a70 := Tryd.isAgg140
  z70 := Tryd.sizeOf140
  v70 := Tryd.zeroValue140
  t76 := Tryd.underlying142
  a76 := Tryd.isAgg142
  z76 := Tryd.sizeOf142
  v76 := Tryd.zeroValue142
  t77 := Tryd.underlying93
  a77 := Tryd.isAgg93
  z77 := Tryd.sizeOf93
  v77 := Tryd.zeroValue93 }
end Go.Proofs.YtakcadkffmfneaaDoor
namespace Go.Proofs.YtakcadkffmfneaaDoor
open Go.Shelf Go.RowKit Go.Lib Go.Sort

/-! ### the two orders -/
def adCmp (a b : Ad) : Int := orI (cmpI a.2 b.2) (cmpI a.1 b.1)
def adLt (a b : Ad) : Bool := decide (a.2 < b.2) || (decide (a.2 = b.2) && decide (a.1 < b.1))
theorem adCmp_lt (a b : Ad) : decide (adCmp a b < 0) = adLt a b := by
  unfold adCmp adLt orI cmpI
  by_cases h1 : a.2 < b.2
  · have : ¬ a.2 = b.2 := by omega
    simp [h1]
  · by_cases h2 : b.2 < a.2
    · have : ¬ a.2 = b.2 := by omega
      simp [h1, h2, this]
    · have : a.2 = b.2 := by omega
      by_cases h3 : a.1 < b.1
      · simp [this, h3]
      · by_cases h4 : b.1 < a.1 <;> simp [this, h3, h4]
theorem adCmp_0 (a b : Ad) : adCmp a b = 0 ↔ a = b := by
  unfold adCmp orI cmpI
  rw [Prod.ext_iff]
  by_cases h1 : a.2 < b.2
  · simp [h1]; omega
  · by_cases h2 : b.2 < a.2
    · simp [h1, h2]; omega
    · have : a.2 = b.2 := by omega
      by_cases h3 : a.1 < b.1
      · simp [this, h3]; omega
      · by_cases h4 : b.1 < a.1
        · simp [this, h3, h4]; omega
        · simp [this, h3, h4]; omega
theorem ltOf_ad : ltOf adCmp = adLt := by funext a b; exact adCmp_lt a b
theorem adLt_iff (a b : Ad) : adLt a b = true ↔ a.2 < b.2 ∨ a.2 = b.2 ∧ a.1 < b.1 := by simp [adLt]
theorem adLt_false (a b : Ad) : adLt a b = false ↔ ¬ (a.2 < b.2 ∨ a.2 = b.2 ∧ a.1 < b.1) := by rw [← adLt_iff]; simp
theorem swo_ad : SWO adLt where
  irrefl x := by rw [adLt_false]; omega
  trans x y z h1 h2 := by rw [adLt_iff] at *; omega
  ntrans x y z h1 h2 := by rw [adLt_false] at *; omega
theorem tot_ad (x y : Ad) (h1 : adLt x y = false) (h2 : adLt y x = false) : x = y := by
  rw [adLt_false] at *; rw [Prod.ext_iff]; omega
def arCmp (x y : Ar) : Int := orI (adCmp x.1 y.1) (adCmp x.2 y.2)
def arLt (x y : Ar) : Bool := adLt x.1 y.1 || (decide (x.1 = y.1) && adLt x.2 y.2)
theorem arCmp_lt (x y : Ar) : decide (arCmp x y < 0) = arLt x y := by
  unfold arCmp arLt orI
  rw [← adCmp_lt, ← adCmp_lt]
  by_cases h : adCmp x.1 y.1 = 0
  · have := (adCmp_0 _ _).1 h
    rw [if_pos h, this]
    have z : decide (adCmp y.1 y.1 < 0) = false := by rw [(adCmp_0 _ _).2 rfl]; rfl
    rw [z]; simp
  · have : ¬ x.1 = y.1 := fun e => h ((adCmp_0 _ _).2 e)
    simp [h, this]
theorem ltOf_ar : ltOf arCmp = arLt := by funext a b; exact arCmp_lt a b
theorem arLt_iff (x y : Ar) : arLt x y = true ↔ adLt x.1 y.1 = true ∨ x.1 = y.1 ∧ adLt x.2 y.2 = true := by simp [arLt]
theorem arLt_false (x y : Ar) : arLt x y = false ↔ ¬ (adLt x.1 y.1 = true ∨ x.1 = y.1 ∧ adLt x.2 y.2 = true) := by rw [← arLt_iff]; simp
theorem swo_ar : SWO arLt where
  irrefl x := by rw [arLt_false]; simp only [swo_ad.irrefl]; simp
  trans x y z h1 h2 := by
    rw [arLt_iff] at *
    rcases h1 with h1 | ⟨e1, h1⟩ <;> rcases h2 with h2 | ⟨e2, h2⟩
    · exact Or.inl (swo_ad.trans _ _ _ h1 h2)
    · exact Or.inl (e2 ▸ h1)
    · exact Or.inl (e1 ▸ h2)
    · exact Or.inr ⟨e1.trans e2, swo_ad.trans _ _ _ h1 h2⟩
  ntrans x y z h1 h2 := by
    rw [arLt_false, Prod.ext_iff] at *
    simp only [adLt_iff] at *
    omega
theorem tot_ar (x y : Ar) (h1 : arLt x y = false) (h2 : arLt y x = false) : x = y := by
  rw [arLt_false] at *
  simp only [adLt_iff, Prod.ext_iff] at *
  omega

/-! ### slices.SortFunc at the two -/
def sortL {α : Type} (lt : α → α → Bool) (l : List α) : List α := l.mergeSort fun x y => !lt y x
theorem adC_len (x : Ad) : (adC x).length = 2 := rfl
theorem arC_len (x : Ar) : (arC x).length = 4 := rfl
theorem adC_one (x : Ad) : ∀ v ∈ adC x, v.oneCell' = true := by intro v hv; simp [adC] at hv; rcases hv with rfl | rfl <;> rfl
theorem arC_one (x : Ar) : ∀ v ∈ arC x, v.oneCell' = true := by intro v hv; simp [arC] at hv; rcases hv with rfl | rfl | rfl | rfl <;> rfl
theorem sortAd_row (g cap : Nat) (l : List Ad) (w : World) (hH : HoldsK adC 2 w g 0 l.toArray) (hg : g < w.heap.size) (hsz : l.length < 4611686018427387904) :
    Calls Tryd.prog 52 #[.slice (some ⟨g, 0, none⟩) l.length cap, .func (.func 38) #[] #[]] w fun e w' => e = .returned (.tuple #[]) ∧ ∃ n os, w' = sortWorldK adC 2 w g 0 n (sortL adLt l).toArray os := by
  have eg : ∀ args w, (callFunc 38 args).run Tryd.prog w = .ok (.enter 38 args) w := enters_of Tryd.func38 (by kernel_rfl) rfl
  have hcmp : CmpLays Tryd.prog 38 #[] adC 2 adCmp g 0 l.toArray.size w := fun _ _ _ _ x y => order_any x.1 x.2 y.1 y.2 _
  have hcon := AnyQ.slices_SortFunc Tryd.sortAd 2 Tryd.isAgg28 Tryd.sizeOf28 adC adC_len adC_one adCmp (by rw [ltOf_ad]; exact swo_ad) 38 #[] g 0 cap l.toArray w eg hcmp hH hg (by simpa using hsz)
  change Calls Tryd.prog 52 _ _ _ at hcon
  rw [show l.toArray.size = l.length from by simp] at hcon
  refine hcon.mono fun e w' ⟨he, d', n, os, hp, hs, hw⟩ => ⟨he, n, os, ?_⟩
  rw [hw]
  congr 1
  rw [ltOf_ad] at hs
  have := sorted_unique_holds swo_ad (fun x y h1 h2 => tot_ad x y h1 h2) l.toArray d' (by simpa using hp) (by simpa using hs)
  rw [show d' = d'.toList.toArray from by simp, this]; rfl
theorem sortL_len {α : Type} (lt : α → α → Bool) (l : List α) : (sortL lt l).length = l.length := by simp [sortL]
theorem sortAd_own {B : Nat} {v : Value} {l : List Ad} {w : World} (h : OwnL w B 28 2 adC v l) (hsz : l.length < 4611686018427387904) :
    Calls Tryd.prog 52 #[v, .func (.func 38) #[] #[]] w fun e w' => e = .returned (.tuple #[]) ∧ OwnL w' B 28 2 adC v (sortL adLt l) ∧ w.grownBy w' v.ownBlock := by
  have h0 := h
  obtain ⟨h1, h2⟩ := h
  rcases h2 with ⟨rfl, hn⟩ | ⟨g, cap, cur, rfl, hb, hg, hn, hc, hs, ht⟩
  · have hl : l = [] := List.length_eq_zero_iff.1 hn
    subst hl
    have hcon := AnyF.slices_SortFunc_none Tryd.sortAd none 0 (.func (.func 38) #[] #[]) w
    change Calls Tryd.prog 52 _ _ _ at hcon
    refine hcon.mono fun e w' ⟨he, hw⟩ => ?_
    subst hw
    exact ⟨he, by simpa [sortL] using h0, ⟨rfl, rfl, rfl, Nat.le_refl _, fun _ _ _ => rfl⟩⟩
  · refine (sortAd_row g cap l w (holdsK_of adC_len hg ht) (Array.getElem?_eq_some_iff.1 hg).1 hsz).mono fun e w' ⟨he, n, os, hw⟩ => ?_
    have := owns_sortWorld (m := n) (os := os) (d := (sortL adLt l).toArray) adC_len hg hb (by simpa [sortL_len] using hn) hc hs
    subst hw
    exact ⟨he, by simpa [OwnL, sortL_len] using this.1, this.2⟩
end Go.Proofs.YtakcadkffmfneaaDoor
