import Derived.Test.YtfpdleljhbkehaaGreatDoorProg
import Derived.Shelf.SlSortCmp.WholeK
import Derived.Shelf.SlicesE.Clone
import Derived.Test.YtfpdleljhbkehaaGreatDoorA1
import Derived.Shelf.SlSortCmp.NoneTotal
namespace Go.Proofs.YtfpdleljhbkehaaGreatDoor
open Go.Shelf Go.RowKit Go.Lib Go.Sort

def Tryz.sortAd_ren : Go.Shelf.Ren := ⟨fun | 6 => 109 | 15 => 123 | 14 => 122 | 28 => 139 | 29 => 140 | 20 => 131 | 21 => 132 | 22 => 133 | 23 => 134 | 24 => 135 | 25 => 136 | 26 => 137 | 27 => 138 | 46 => 141 | 47 => 142 | 48 => 143 | 49 => 144 | 50 => 145 | 57 => 146 | n => n, fun | 22 => 115 | 24 => 26 | 25 => 120 | 3 => 3 | 39 => 128 | 0 => 0 | 53 => 162 | 55 => 77 | 4 => 4 | 46 => 156 | 45 => 155 | 50 => 109 | 5 => 5 | 9 => 9 | 66 => 164 | 70 => 168 | 76 => 170 | 77 => 98 | n => n, fun | n => n⟩
theorem Tryz.sortAd : Go.Proofs.SlLaysF0.n6 Tryz.prog Tryz.sortAd_ren := {
  mixed := by kernel_rfl
  f6 := ⟨Tryz.f109.name, by decide, Tryz.func109.trans (congrArg some (by kernel_rfl))⟩
  f14 := ⟨Tryz.f122.name, by decide, Tryz.func122.trans (congrArg some (by kernel_rfl))⟩
  f15 := Tryz.func123.trans (congrArg some (by kernel_rfl))
  f20 := ⟨Tryz.f131.name, by decide, Tryz.func131.trans (congrArg some (by kernel_rfl))⟩
  f21 := ⟨Tryz.f132.name, by decide, Tryz.func132.trans (congrArg some (by kernel_rfl))⟩
  f22 := ⟨Tryz.f133.name, by decide, Tryz.func133.trans (congrArg some (by kernel_rfl))⟩
  f23 := ⟨Tryz.f134.name, by decide, Tryz.func134.trans (congrArg some (by kernel_rfl))⟩
  f24 := ⟨Tryz.f135.name, by decide, Tryz.func135.trans (congrArg some (by kernel_rfl))⟩
  f25 := ⟨Tryz.f136.name, by decide, Tryz.func136.trans (congrArg some (by kernel_rfl))⟩
  f26 := ⟨Tryz.f137.name, by decide, Tryz.func137.trans (congrArg some (by kernel_rfl))⟩
  f27 := ⟨Tryz.f138.name, by decide, Tryz.func138.trans (congrArg some (by kernel_rfl))⟩
  f28 := Tryz.func139.trans (congrArg some (by kernel_rfl))
  f29 := Tryz.func140.trans (congrArg some (by kernel_rfl))
  f46 := ⟨Tryz.f141.name, by decide, Tryz.func141.trans (congrArg some (by kernel_rfl))⟩
  f47 := Tryz.func142.trans (congrArg some (by kernel_rfl))
  f48 := Tryz.func143.trans (congrArg some (by kernel_rfl))
  f49 := ⟨Tryz.f144.name, by decide, Tryz.func144.trans (congrArg some (by kernel_rfl))⟩
  f50 := ⟨Tryz.f145.name, by decide, Tryz.func145.trans (congrArg some (by kernel_rfl))⟩
  f57 := ⟨Tryz.f146.name, by decide, Tryz.func146.trans (congrArg some (by kernel_rfl))⟩
  t0 := Tryz.underlying0
  a0 := Tryz.isAgg0
  z0 := Tryz.sizeOf0
  v0 := Tryz.zeroValue0
  t3 := Tryz.underlying3
  a3 := Tryz.isAgg3
  z3 := Tryz.sizeOf3
  v3 := Tryz.zeroValue3
  t4 := Tryz.underlying4
  a4 := Tryz.isAgg4
  z4 := Tryz.sizeOf4
  v4 := Tryz.zeroValue4
  t5 := Tryz.underlying5
  a5 := Tryz.isAgg5
  z5 := Tryz.sizeOf5
  v5 := Tryz.zeroValue5
  t9 := Tryz.underlying9
  a9 := Tryz.isAgg9
  z9 := Tryz.sizeOf9
  v9 := Tryz.zeroValue9
  t22 := Tryz.underlying115
  a22 := Tryz.isAgg115
  z22 := Tryz.sizeOf115
  v22 := Tryz.zeroValue115
  t25 := Tryz.underlying120
  a25 := Tryz.isAgg120
  z25 := Tryz.sizeOf120
  v25 := Tryz.zeroValue120
  t39 := Tryz.underlying128
  a39 := Tryz.isAgg128
  z39 := Tryz.sizeOf128
  v39 := Tryz.zeroValue128
  t45 := Tryz.underlying155
  a45 := Tryz.isAgg155
  z45 := Tryz.sizeOf155
  v45 := Tryz.zeroValue155
  t46 := Tryz.underlying156
  a46 := Tryz.isAgg156
  z46 := Tryz.sizeOf156
  v46 := Tryz.zeroValue156
  t50 := Tryz.underlying109
  a50 := Tryz.isAgg109
  z50 := Tryz.sizeOf109
  v50 := Tryz.zeroValue109
  t53 := Tryz.underlying162
  a53 := Tryz.isAgg162
  z53 := Tryz.sizeOf162
  v53 := Tryz.zeroValue162
  t55 := Tryz.underlying77
  a55 := Tryz.isAgg77
  z55 := Tryz.sizeOf77
  v55 := Tryz.zeroValue77
  t66 := Tryz.underlying164
  a66 := Tryz.isAgg164
  z66 := Tryz.sizeOf164
  v66 := Tryz.zeroValue164
  t70 := Tryz.underlying168
  a70 := Tryz.isAgg168
  z70 := Tryz.sizeOf168
  v70 := Tryz.zeroValue168
  t76 := Tryz.underlying170
  a76 := Tryz.isAgg170
  z76 := Tryz.sizeOf170
  v76 := Tryz.zeroValue170
  t77 := Tryz.underlying98
  a77 := Tryz.isAgg98
  z77 := Tryz.sizeOf98
  v77 := Tryz.zeroValue98 }
end Go.Proofs.YtfpdleljhbkehaaGreatDoor
namespace Go.Proofs.YtfpdleljhbkehaaGreatDoor
open Go.Shelf Go.RowKit Go.Lib Go.Sort

/-! ### the two orders -/
def adCmp (a b : Ad) : Int := orI (cmpI a.2 b.2) (cmpI a.1 b.1)
def adLt (a b : Ad) : Bool := decide (a.2 < b.2) || (decide (a.2 = b.2) && decide (a.1 < b.1))
theorem adCmp_lt (a b : Ad) : decide (adCmp a b < 0) = adLt a b := by
  unfold adCmp adLt orI cmpI
  by_cases h1 : a.2 < b.2
  · have : ¬ a.2 = b.2 := by omega
    simp [h1]
  · by_cases h2 : b.2 < a.2
    · have : ¬ a.2 = b.2 := by omega
      simp [h1, h2, this]
    · have : a.2 = b.2 := by omega
      by_cases h3 : a.1 < b.1
      · simp [this, h3]
      · by_cases h4 : b.1 < a.1 <;> simp [this, h3, h4]
theorem adCmp_0 (a b : Ad) : adCmp a b = 0 ↔ a = b := by
  unfold adCmp orI cmpI
  rw [Prod.ext_iff]
  by_cases h1 : a.2 < b.2
  · simp [h1]; omega
  · by_cases h2 : b.2 < a.2
    · simp [h1, h2]; omega
    · have : a.2 = b.2 := by omega
      by_cases h3 : a.1 < b.1
      · simp [this, h3]; omega
      · by_cases h4 : b.1 < a.1
        · simp [this, h3, h4]; omega
        · simp [this, h3, h4]; omega
theorem ltOf_ad : ltOf adCmp = adLt := by funext a b; exact adCmp_lt a b
theorem adLt_iff (a b : Ad) : adLt a b = true ↔ a.2 < b.2 ∨ a.2 = b.2 ∧ a.1 < b.1 := by simp [adLt]
theorem adLt_false (a b : Ad) : adLt a b = false ↔ ¬ (a.2 < b.2 ∨ a.2 = b.2 ∧ a.1 < b.1) := by rw [← adLt_iff]; simp
theorem swo_ad : SWO adLt where
  irrefl x := by rw [adLt_false]; omega
  trans x y z h1 h2 := by rw [adLt_iff] at *; omega
  ntrans x y z h1 h2 := by rw [adLt_false] at *; omega
theorem tot_ad (x y : Ad) (h1 : adLt x y = false) (h2 : adLt y x = false) : x = y := by
  rw [adLt_false] at *; rw [Prod.ext_iff]; omega
def arCmp (x y : Ar) : Int := orI (adCmp x.1 y.1) (adCmp x.2 y.2)
def arLt (x y : Ar) : Bool := adLt x.1 y.1 || (decide (x.1 = y.1) && adLt x.2 y.2)
theorem arCmp_lt (x y : Ar) : decide (arCmp x y < 0) = arLt x y := by
  unfold arCmp arLt orI
  rw [← adCmp_lt, ← adCmp_lt]
  by_cases h : adCmp x.1 y.1 = 0
  · have := (adCmp_0 _ _).1 h
    rw [if_pos h, this]
    have z : decide (adCmp y.1 y.1 < 0) = false := by rw [(adCmp_0 _ _).2 rfl]; rfl
    rw [z]; simp
  · have : ¬ x.1 = y.1 := fun e => h ((adCmp_0 _ _).2 e)
    simp [h, this]
theorem ltOf_ar : ltOf arCmp = arLt := by funext a b; exact arCmp_lt a b
theorem arLt_iff (x y : Ar) : arLt x y = true ↔ adLt x.1 y.1 = true ∨ x.1 = y.1 ∧ adLt x.2 y.2 = true := by simp [arLt]
theorem arLt_false (x y : Ar) : arLt x y = false ↔ ¬ (adLt x.1 y.1 = true ∨ x.1 = y.1 ∧ adLt x.2 y.2 = true) := by rw [← arLt_iff]; simp
theorem swo_ar : SWO arLt where
  irrefl x := by rw [arLt_false]; simp only [swo_ad.irrefl]; simp
  trans x y z h1 h2 := by
    rw [arLt_iff] at *
    rcases h1 with h1 | ⟨e1, h1⟩ <;> rcases h2 with h2 | ⟨e2, h2⟩
    · exact Or.inl (swo_ad.trans _ _ _ h1 h2)
    · exact Or.inl (e2 ▸ h1)
    · exact Or.inl (e1 ▸ h2)
    · exact Or.inr ⟨e1.trans e2, swo_ad.trans _ _ _ h1 h2⟩
  ntrans x y z h1 h2 := by
    rw [arLt_false, Prod.ext_iff] at *
    simp only [adLt_iff] at *
    omega
theorem tot_ar (x y : Ar) (h1 : arLt x y = false) (h2 : arLt y x = false) : x = y := by
  rw [arLt_false] at *
  simp only [adLt_iff, Prod.ext_iff] at *
  omega

/-! ### slices.SortFunc at the two -/
def sortL {α : Type} (lt : α → α → Bool) (l : List α) : List α := l.mergeSort fun x y => !lt y x
theorem adC_len (x : Ad) : (adC x).length = 2 := rfl
theorem arC_len (x : Ar) : (arC x).length = 4 := rfl
theorem adC_one (x : Ad) : ∀ v ∈ adC x, v.oneCell' = true := by intro v hv; simp [adC] at hv; rcases hv with rfl | rfl <;> rfl
theorem arC_one (x : Ar) : ∀ v ∈ arC x, v.oneCell' = true := by intro v hv; simp [arC] at hv; rcases hv with rfl | rfl | rfl | rfl <;> rfl
theorem sortAd_row (g cap : Nat) (l : List Ad) (w : World) (hH : HoldsK adC 2 w g 0 l.toArray) (hg : g < w.heap.size) (hsz : l.length < 4611686018427387904) :
    Calls Tryz.prog 109 #[.slice (some ⟨g, 0, none⟩) l.length cap, .func (.func 91) #[] #[]] w fun e w' => e = .returned (.tuple #[]) ∧ ∃ n os, w' = sortWorldK adC 2 w g 0 n (sortL adLt l).toArray os := by
  have eg : ∀ args w, (callFunc 91 args).run Tryz.prog w = .ok (.enter 91 args) w := enters_of Tryz.func91 (by kernel_rfl) rfl
  have hcmp : CmpLays Tryz.prog 91 #[] adC 2 adCmp g 0 l.toArray.size w := fun _ _ _ _ x y => order_any x.1 x.2 y.1 y.2 _
  have hcon := AnyQ.slices_SortFunc Tryz.sortAd 2 Tryz.isAgg26 Tryz.sizeOf26 adC adC_len adC_one adCmp (by rw [ltOf_ad]; exact swo_ad) 91 #[] g 0 cap l.toArray w eg hcmp hH hg (by simpa using hsz)
  change Calls Tryz.prog 109 _ _ _ at hcon
  rw [show l.toArray.size = l.length from by simp] at hcon
  refine hcon.mono fun e w' ⟨he, d', n, os, hp, hs, hw⟩ => ⟨he, n, os, ?_⟩
  rw [hw]
  congr 1
  rw [ltOf_ad] at hs
  have := sorted_unique_holds swo_ad (fun x y h1 h2 => tot_ad x y h1 h2) l.toArray d' (by simpa using hp) (by simpa using hs)
  rw [show d' = d'.toList.toArray from by simp, this]; rfl
theorem sortL_len {α : Type} (lt : α → α → Bool) (l : List α) : (sortL lt l).length = l.length := by simp [sortL]
theorem sortAd_own {B : Nat} {v : Value} {l : List Ad} {w : World} (h : OwnL w B 26 2 adC v l) (hsz : l.length < 4611686018427387904) :
    Calls Tryz.prog 109 #[v, .func (.func 91) #[] #[]] w fun e w' => e = .returned (.tuple #[]) ∧ OwnL w' B 26 2 adC v (sortL adLt l) ∧ w.grownBy w' v.ownBlock := by
  have h0 := h
  obtain ⟨h1, h2⟩ := h
  rcases h2 with ⟨rfl, hn⟩ | ⟨g, cap, cur, rfl, hb, hg, hn, hc, hs, ht⟩
  · have hl : l = [] := List.length_eq_zero_iff.1 hn
    subst hl
    have hcon := AnyF.slices_SortFunc_none Tryz.sortAd none 0 (.func (.func 91) #[] #[]) w
    change Calls Tryz.prog 109 _ _ _ at hcon
    refine hcon.mono fun e w' ⟨he, hw⟩ => ?_
    subst hw
    exact ⟨he, by simpa [sortL] using h0, ⟨rfl, rfl, rfl, Nat.le_refl _, fun _ _ _ => rfl⟩⟩
  · refine (sortAd_row g cap l w (holdsK_of adC_len hg ht) (Array.getElem?_eq_some_iff.1 hg).1 hsz).mono fun e w' ⟨he, n, os, hw⟩ => ?_
    have := owns_sortWorld (m := n) (os := os) (d := (sortL adLt l).toArray) adC_len hg hb (by simpa [sortL_len] using hn) hc hs
    subst hw
    exact ⟨he, by simpa [OwnL, sortL_len] using this.1, this.2⟩
end Go.Proofs.YtfpdleljhbkehaaGreatDoor
